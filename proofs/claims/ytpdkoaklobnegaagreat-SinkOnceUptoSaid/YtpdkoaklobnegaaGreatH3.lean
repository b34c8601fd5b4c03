/-
  Part 3 of the proof: what the last text leans on.
-/
import Derived.Test.YtpdkoaklobnegaaGreatProg
import Derived.KernelRfl
import Derived.Test.YtpdkoaklobnegaaGreatH2
namespace Go.Proofs.YtpdkoaklobnegaaGreat
open Go.Eng
set_option maxRecDepth 100000
noncomputable def pl_recs_without : Plan := ⟨68, [(1, (Tryz.prog.cellsOf 117)), (2, (Tryz.prog.cellsOf 117))], [4, 10, 15, 20, 21, 22, 23, 24, 29, 30, 31, 35, 39, 40, 41, 46, 47, 48, 52, 58, 59, 60, 61, 65, 66], [0, 3, 5, 7, 11, 16, 25, 32, 36, 42, 49, 53, 62], [], []⟩
def vc_recs_without (R : Ending → World → Prop) (w0 : World) (X0 : XS) (p0_0 p0_1 p0_2 p0_3 p0_4 p0_5 p0_6 p0_7 p0_8 p0_9 : Int) (p0_10 : Bool) (p0_11 : Int) (p0_12 : Nat) (p0_13 p0_14 p0_15 p0_16 : Value) (p0_17 p0_18 : Int) (p0_19 p0_20 : Nat) (p0_21 p0_22 p0_23 p0_24 p0_25 p0_26 : Int) (p0_27 p0_28 : Value) : Prop :=
 (((jn (fun (y1_67 : Value) =>
 (chk (isA y1_67) (un (subOf y1_67 0 29) fun u_70 =>
 un (Value.agg (Value.cells u_70)) fun u_71 =>
 chk (List.length (Array.toList (Value.cells u_70)) == 29) (chk (List.all (Array.toList (Value.cells u_70)) one) ((un (subOf u_71 0 29) fun u_72 =>
 chk (List.all [u_71] isA) (fin R X0 w0 (Value.tuple #[u_72, (B true)])))))))) fun k_68 =>
 rdV Tryz.prog X0 w0 (binS .eql 3 (.tmp 5) (.const (I 1)) (I p0_0) (I 1)) fun x8_6 =>
 (condW x8_6
 (rdV Tryz.prog X0 w0 (bld 46 #[(I 0), (I 0), (.float .f64 0), (.float .f64 0), (I 0), (I 0), (I 0), (I 0), (I 0), (I 0), (.slice none 0 0), (.slice none 0 0)] #[]) fun x9_7 =>
 un (Value.agg (List.toArray (setL [(I p0_0), (I p0_1), (I p0_2), (I p0_3), (I p0_4), (I p0_5), (I p0_6), (I p0_7), (I p0_8), (I p0_9), (B p0_10), (I p0_11), (.float .f64 p0_12), p0_13, p0_14, p0_15, p0_16, (I p0_17), (I p0_18), (.float .f64 p0_19), (.float .f64 p0_20), (I p0_21), (I p0_22), (I p0_23), (I p0_24), (I p0_25), (I p0_26), p0_27, p0_28] 17 (Array.toList (Value.cells x9_7))))) fun u_8 =>
 chk (List.length (Array.toList (Value.cells x9_7)) == 12) (chk (List.all (Array.toList (Value.cells x9_7)) one) (k_68 u_8)))
 ((jn (fun (y11_15 : Value) =>
 condW y11_15
 ((k_68 (.agg #[(I p0_0), (I p0_1), (I p0_2), (I p0_3), (I p0_4), (I p0_5), (I p0_6), (I p0_7), (I p0_8), (I p0_9), (B p0_10), (I 0), (.float .f64 p0_12), p0_13, p0_14, p0_15, p0_16, (I p0_17), (I p0_18), (.float .f64 p0_19), (.float .f64 p0_20), (I p0_21), (I p0_22), (I p0_23), (I p0_24), (I p0_25), (I p0_26), p0_27, p0_28])))
 (rdV Tryz.prog X0 w0 (binS .eql 3 (.tmp 5) (.const (I 3)) (I p0_0) (I 3)) fun x17_18 =>
 (condW x17_18
 (rdV Tryz.prog X0 w0 (bld 33 #[(I 0), (I 0), (I 0)] #[]) fun x18_19 =>
 rdV Tryz.prog X0 w0 (bld 35 #[(I 0), (I 0), (I 0)] #[]) fun x19_20 =>
 un (Value.agg (List.toArray (setL [(I p0_0), (I p0_1), (I p0_2), (I p0_3), (I p0_4), (I p0_5), (I p0_6), (I p0_7), (I p0_8), (I p0_9), (B p0_10), (I p0_11), (.float .f64 p0_12), p0_13, p0_14, p0_15, p0_16, (I p0_17), (I p0_18), (.float .f64 p0_19), (.float .f64 p0_20), (I p0_21), (I p0_22), (I p0_23), (I p0_24), (I p0_25), (I p0_26), p0_27, p0_28] 1 (Array.toList (Value.cells x18_19))))) fun u_21 =>
 chk (List.length (Array.toList (Value.cells x18_19)) == 3) (chk (List.all (Array.toList (Value.cells x18_19)) one) (un (Value.agg (List.toArray (setL (Array.toList (Value.cells u_21)) 4 (Array.toList (Value.cells x19_20))))) fun u_22 =>
 chk (List.length (Array.toList (Value.cells x19_20)) == 3) (chk (List.all (Array.toList (Value.cells x19_20)) one) (un (Value.agg (List.toArray (setL (Array.toList (Value.cells u_22)) 13 [(.slice none 0 0)]))) fun u_23 =>
 un (Value.agg (List.toArray (setL (Array.toList (Value.cells u_23)) 14 [(.slice none 0 0)]))) fun u_24 =>
 un (Value.agg (List.toArray (setL (Array.toList (Value.cells u_24)) 15 [(.slice none 0 0)]))) fun u_25 =>
 (k_68 u_25))))))
 (rdV Tryz.prog X0 w0 (binS .eql 3 (.tmp 5) (.const (I 4)) (I p0_0) (I 4)) fun x26_27 =>
 (condW x26_27
 (rdV Tryz.prog X0 w0 (bld 33 #[(I 0), (I 0), (I 0)] #[]) fun x27_28 =>
 rdV Tryz.prog X0 w0 (bld 35 #[(I 0), (I 0), (I 0)] #[]) fun x28_29 =>
 un (Value.agg (List.toArray (setL [(I p0_0), (I p0_1), (I p0_2), (I p0_3), (I p0_4), (I p0_5), (I p0_6), (I p0_7), (I p0_8), (I p0_9), (B p0_10), (I p0_11), (.float .f64 p0_12), p0_13, p0_14, p0_15, p0_16, (I p0_17), (I p0_18), (.float .f64 p0_19), (.float .f64 p0_20), (I p0_21), (I p0_22), (I p0_23), (I p0_24), (I p0_25), (I p0_26), p0_27, p0_28] 1 (Array.toList (Value.cells x27_28))))) fun u_30 =>
 chk (List.length (Array.toList (Value.cells x27_28)) == 3) (chk (List.all (Array.toList (Value.cells x27_28)) one) (un (Value.agg (List.toArray (setL (Array.toList (Value.cells u_30)) 10 [(B false)]))) fun u_31 =>
 un (Value.agg (List.toArray (setL (Array.toList (Value.cells u_31)) 4 (Array.toList (Value.cells x28_29))))) fun u_32 =>
 chk (List.length (Array.toList (Value.cells x28_29)) == 3) (chk (List.all (Array.toList (Value.cells x28_29)) one) (k_68 u_32)))))
 (rdV Tryz.prog X0 w0 (binS .eql 3 (.tmp 5) (.const (I 5)) (I p0_0) (I 5)) fun x33_34 =>
 (condW x33_34
 (rdV Tryz.prog X0 w0 (bld 35 #[(I 0), (I 0), (I 0)] #[]) fun x34_35 =>
 un (Value.agg (List.toArray (setL [(I p0_0), (I p0_1), (I p0_2), (I p0_3), (I p0_4), (I p0_5), (I p0_6), (I p0_7), (I p0_8), (I p0_9), (B p0_10), (I p0_11), (.float .f64 p0_12), p0_13, p0_14, p0_15, p0_16, (I p0_17), (I p0_18), (.float .f64 p0_19), (.float .f64 p0_20), (I p0_21), (I p0_22), (I p0_23), (I p0_24), (I p0_25), (I p0_26), p0_27, p0_28] 4 (Array.toList (Value.cells x34_35))))) fun u_36 =>
 chk (List.length (Array.toList (Value.cells x34_35)) == 3) (chk (List.all (Array.toList (Value.cells x34_35)) one) (k_68 u_36)))
 (rdV Tryz.prog X0 w0 (binS .eql 3 (.tmp 5) (.const (I 6)) (I p0_0) (I 6)) fun x37_38 =>
 (condW x37_38
 (rdV Tryz.prog X0 w0 (bld 35 #[(I 0), (I 0), (I 0)] #[]) fun x38_39 =>
 un (Value.agg (List.toArray (setL [(I p0_0), (I p0_1), (I p0_2), (I p0_3), (I p0_4), (I p0_5), (I p0_6), (I p0_7), (I p0_8), (I p0_9), (B p0_10), (I 0), (.float .f64 0), p0_13, p0_14, p0_15, p0_16, (I p0_17), (I p0_18), (.float .f64 p0_19), (.float .f64 p0_20), (I p0_21), (I p0_22), (I p0_23), (I p0_24), (I p0_25), (I p0_26), p0_27, p0_28] 4 (Array.toList (Value.cells x38_39))))) fun u_40 =>
 chk (List.length (Array.toList (Value.cells x38_39)) == 3) (chk (List.all (Array.toList (Value.cells x38_39)) one) (k_68 u_40)))
 (rdV Tryz.prog X0 w0 (binS .eql 3 (.tmp 5) (.const (I 9)) (I p0_0) (I 9)) fun x43_42 =>
 (condW x43_42
 (rdV Tryz.prog X0 w0 (bld 33 #[(I 0), (I 0), (I 0)] #[]) fun x44_43 =>
 rdV Tryz.prog X0 w0 (bld 35 #[(I 0), (I 0), (I 0)] #[]) fun x45_44 =>
 un (Value.agg (List.toArray (setL [(I p0_0), (I p0_1), (I p0_2), (I p0_3), (I p0_4), (I p0_5), (I p0_6), (I p0_7), (I p0_8), (I p0_9), (B p0_10), (I p0_11), (.float .f64 p0_12), p0_13, p0_14, p0_15, p0_16, (I p0_17), (I p0_18), (.float .f64 p0_19), (.float .f64 p0_20), (I p0_21), (I p0_22), (I p0_23), (I p0_24), (I p0_25), (I p0_26), p0_27, p0_28] 1 (Array.toList (Value.cells x44_43))))) fun u_45 =>
 chk (List.length (Array.toList (Value.cells x44_43)) == 3) (chk (List.all (Array.toList (Value.cells x44_43)) one) (un (Value.agg (List.toArray (setL (Array.toList (Value.cells u_45)) 4 (Array.toList (Value.cells x45_44))))) fun u_46 =>
 chk (List.length (Array.toList (Value.cells x45_44)) == 3) (chk (List.all (Array.toList (Value.cells x45_44)) one) (un (Value.agg (List.toArray (setL (Array.toList (Value.cells u_46)) 15 [(.slice none 0 0)]))) fun u_47 =>
 (k_68 u_47))))))
 (rdV Tryz.prog X0 w0 (binS .eql 3 (.tmp 5) (.const (I 10)) (I p0_0) (I 10)) fun x50_49 =>
 (condW x50_49
 (rdV Tryz.prog X0 w0 (bld 33 #[(I 0), (I 0), (I 0)] #[]) fun x51_50 =>
 un (Value.agg (List.toArray (setL [(I p0_0), (I p0_1), (I p0_2), (I p0_3), (I p0_4), (I p0_5), (I p0_6), (I p0_7), (I p0_8), (I p0_9), (B p0_10), (I p0_11), (.float .f64 p0_12), p0_13, p0_14, p0_15, p0_16, (I p0_17), (I p0_18), (.float .f64 p0_19), (.float .f64 p0_20), (I p0_21), (I p0_22), (I p0_23), (I p0_24), (I p0_25), (I p0_26), p0_27, p0_28] 1 (Array.toList (Value.cells x51_50))))) fun u_51 =>
 chk (List.length (Array.toList (Value.cells x51_50)) == 3) (chk (List.all (Array.toList (Value.cells x51_50)) one) (k_68 u_51)))
 (rdV Tryz.prog X0 w0 (binS .eql 3 (.tmp 5) (.const (I 11)) (I p0_0) (I 11)) fun x54_53 =>
 (condW x54_53
 (rdV Tryz.prog X0 w0 (bld 35 #[(I 0), (I 0), (I 0)] #[]) fun x55_54 =>
 rdV Tryz.prog X0 w0 (bld 35 #[(I 0), (I 0), (I 0)] #[]) fun x56_55 =>
 rdV Tryz.prog X0 w0 (bld 33 #[(I 0), (I 0), (I 0)] #[]) fun x57_56 =>
 un (Value.agg (List.toArray (setL [(I p0_0), (I p0_1), (I p0_2), (I p0_3), (I p0_4), (I p0_5), (I p0_6), (I p0_7), (I p0_8), (I p0_9), (B p0_10), (I p0_11), (.float .f64 p0_12), p0_13, p0_14, p0_15, p0_16, (I p0_17), (I p0_18), (.float .f64 p0_19), (.float .f64 p0_20), (I p0_21), (I p0_22), (I p0_23), (I p0_24), (I p0_25), (I p0_26), p0_27, p0_28] 7 (Array.toList (Value.cells x55_54))))) fun u_57 =>
 chk (List.length (Array.toList (Value.cells x55_54)) == 3) (chk (List.all (Array.toList (Value.cells x55_54)) one) (un (Value.agg (List.toArray (setL (Array.toList (Value.cells u_57)) 4 (Array.toList (Value.cells x56_55))))) fun u_58 =>
 chk (List.length (Array.toList (Value.cells x56_55)) == 3) (chk (List.all (Array.toList (Value.cells x56_55)) one) (un (Value.agg (List.toArray (setL (Array.toList (Value.cells u_58)) 1 (Array.toList (Value.cells x57_56))))) fun u_59 =>
 chk (List.length (Array.toList (Value.cells x57_56)) == 3) (chk (List.all (Array.toList (Value.cells x57_56)) one) (un (Value.agg (List.toArray (setL (Array.toList (Value.cells u_59)) 14 [(.slice none 0 0)]))) fun u_60 =>
 (k_68 u_60))))))))
 (rdV Tryz.prog X0 w0 (binS .eql 3 (.tmp 5) (.const (I 12)) (I p0_0) (I 12)) fun x63_62 =>
 (condW x63_62
 (rdV Tryz.prog X0 w0 (bld 35 #[(I 0), (I 0), (I 0)] #[]) fun x64_63 =>
 un (Value.agg (List.toArray (setL [(I p0_0), (I p0_1), (I p0_2), (I p0_3), (I p0_4), (I p0_5), (I p0_6), (I p0_7), (I p0_8), (I p0_9), (B p0_10), (I p0_11), (.float .f64 p0_12), p0_13, p0_14, p0_15, p0_16, (I p0_17), (I p0_18), (.float .f64 p0_19), (.float .f64 p0_20), (I p0_21), (I p0_22), (I p0_23), (I p0_24), (I p0_25), (I p0_26), p0_27, p0_28] 4 (Array.toList (Value.cells x64_63))))) fun u_64 =>
 chk (List.length (Array.toList (Value.cells x64_63)) == 3) (chk (List.all (Array.toList (Value.cells x64_63)) one) (un (Value.agg (List.toArray (setL (Array.toList (Value.cells u_64)) 16 [(.slice none 0 0)]))) fun u_65 =>
 (k_68 u_65))))
 (chk (List.all [(I p0_0), (I p0_1), (I p0_2), (I p0_3), (I p0_4), (I p0_5), (I p0_6), (I p0_7), (I p0_8), (I p0_9), (B p0_10), (I p0_11), (.float .f64 p0_12), p0_13, p0_14, p0_15, p0_16, (I p0_17), (I p0_18), (.float .f64 p0_19), (.float .f64 p0_20), (I p0_21), (I p0_22), (I p0_23), (I p0_24), (I p0_25), (I p0_26), p0_27, p0_28] one) ((fin R X0 w0 (Value.tuple #[(.agg #[(I p0_0), (I p0_1), (I p0_2), (I p0_3), (I p0_4), (I p0_5), (I p0_6), (I p0_7), (I p0_8), (I p0_9), (B p0_10), (I p0_11), (.float .f64 p0_12), p0_13, p0_14, p0_15, p0_16, (I p0_17), (I p0_18), (.float .f64 p0_19), (.float .f64 p0_20), (I p0_21), (I p0_22), (I p0_23), (I p0_24), (I p0_25), (I p0_26), p0_27, p0_28]), (B false)]))))))))))))))))))))) fun k_16 =>
 rdV Tryz.prog X0 w0 (binS .eql 3 (.tmp 5) (.const (I 2)) (I p0_0) (I 2)) fun x12_11 =>
 (condW x12_11
 (k_16 x12_11)
 (rdV Tryz.prog X0 w0 (binS .eql 3 (.tmp 5) (.const (I 7)) (I p0_0) (I 7)) fun x13_13 =>
 (condW x13_13
 (k_16 x13_13)
 (rdV Tryz.prog X0 w0 (binS .eql 3 (.tmp 5) (.const (I 8)) (I p0_0) (I 8)) fun x14_14 =>
 (k_16 x14_14)))))))))))
theorem ok_recs_without {R : Ending → World → Prop} {w0 : World} {p0_0 p0_1 p0_2 p0_3 p0_4 p0_5 p0_6 p0_7 p0_8 p0_9 : Int} {p0_10 : Bool} {p0_11 : Int} {p0_12 : Nat} {p0_13 p0_14 p0_15 p0_16 : Value} {p0_17 p0_18 : Int} {p0_19 p0_20 : Nat} {p0_21 p0_22 p0_23 p0_24 p0_25 p0_26 : Int} {p0_27 p0_28 : Value} (h : vc_recs_without R w0 (old w0) p0_0 p0_1 p0_2 p0_3 p0_4 p0_5 p0_6 p0_7 p0_8 p0_9 p0_10 p0_11 p0_12 p0_13 p0_14 p0_15 p0_16 p0_17 p0_18 p0_19 p0_20 p0_21 p0_22 p0_23 p0_24 p0_25 p0_26 p0_27 p0_28) : Calls Tryz.prog 222 #[(.agg #[(I p0_0), (I p0_1), (I p0_2), (I p0_3), (I p0_4), (I p0_5), (I p0_6), (I p0_7), (I p0_8), (I p0_9), (B p0_10), (I p0_11), (.float .f64 p0_12), p0_13, p0_14, p0_15, p0_16, (I p0_17), (I p0_18), (.float .f64 p0_19), (.float .f64 p0_20), (I p0_21), (I p0_22), (I p0_23), (I p0_24), (I p0_25), (I p0_26), p0_27, p0_28])] w0 R :=
  calls_of_vc (pl := pl_recs_without) Tryz.func222 (by kernel_rfl) (by kernel_rfl) h
noncomputable def pl_recs_zero : Plan := ⟨64, [(1, (Tryz.prog.cellsOf 117))], [3, 8, 14, 20, 25, 30, 36, 42, 48, 54, 60], [0, 2], [7, 9, 10, 11, 13, 15, 16, 17, 19, 21, 22, 24, 26, 27, 29, 31, 32, 33, 35, 37, 38, 39, 41, 43, 44, 45, 47, 49, 50, 51, 53, 55, 56, 57, 59, 61, 62], []⟩
def vc_recs_zero (R : Ending → World → Prop) (w0 : World) (X0 : XS) (_p0_0 p0_1 p0_2 p0_3 p0_4 p0_5 p0_6 p0_7 p0_8 p0_9 : Int) (p0_10 : Bool) (p0_11 : Int) (p0_12 : Nat) (p0_13 p0_14 p0_15 p0_16 : Value) (p0_17 p0_18 : Int) (p0_19 p0_20 : Nat) (p0_21 p0_22 p0_23 p0_24 p0_25 p0_26 : Int) (p0_27 p0_28 : Value) : Prop :=
 (rdV Tryz.prog X0 w0 (bld 33 #[(I 0), (I 0), (I 0)] #[]) fun x5_3 =>
 rdV Tryz.prog X0 w0 (binS .eql 33 (.tmp 4) (.tmp 5) (.agg #[(I p0_1), (I p0_2), (I p0_3)]) x5_3) fun x6_4 =>
 un (gSel x6_4 true (.agg #[(I p0_4), (I p0_5), (I p0_6)])) fun u_5 =>
 grdW Tryz.prog X0 w0 x6_4 true (vS (bld 35 #[(I 0), (I 0), (I 0)] #[])) fun x10_6 =>
 grdW Tryz.prog X0 w0 x6_4 true (vS (binS .eql 35 (.tmp 9) (.tmp 10) u_5 x10_6)) fun x11_7 =>
 rdW Tryz.prog X0 w0 (pickN x6_4 x11_7 (B false)) fun x12_8 =>
 un (gSel x12_8 true (.agg #[(I p0_7), (I p0_8), (I p0_9)])) fun u_9 =>
 grdW Tryz.prog X0 w0 x12_8 true (vS (bld 35 #[(I 0), (I 0), (I 0)] #[])) fun x16_10 =>
 grdW Tryz.prog X0 w0 x12_8 true (vS (binS .eql 35 (.tmp 15) (.tmp 16) u_9 x16_10)) fun x17_11 =>
 rdW Tryz.prog X0 w0 (pickN x12_8 x17_11 (B false)) fun x18_12 =>
 un (gSel x18_12 true (B p0_10)) fun u_13 =>
 grdW Tryz.prog X0 w0 x18_12 true (vS (Op.unary UnOp.not u_13)) fun x22_14 =>
 rdW Tryz.prog X0 w0 (pickN x18_12 x22_14 (B false)) fun x23_15 =>
 un (gSel x23_15 true (I p0_11)) fun u_16 =>
 grdW Tryz.prog X0 w0 x23_15 true (vS (binS .eql 3 (.tmp 26) (.const (I 0)) u_16 (I 0))) fun x27_17 =>
 rdW Tryz.prog X0 w0 (pickN x23_15 x27_17 (B false)) fun x28_18 =>
 un (gSel x28_18 true (.float .f64 p0_12)) fun u_19 =>
 jn (fun (x32_20 : Value) (w_21 : World) (X_22 : XS) =>
 grdW Tryz.prog X_22 w_21 x28_18 true (vS (binS .eql 196 (.tmp 32) (.const (Value.int IntKind.u64 0)) x32_20 (Value.int IntKind.u64 0))) fun x33_24 =>
 rdW Tryz.prog X_22 w_21 (pickN x28_18 x33_24 (B false)) fun x34_25 =>
 un (gSel x34_25 true p0_13) fun u_26 =>
 grdW Tryz.prog X_22 w_21 x34_25 true (vS (lnS 36 3 u_26)) fun x38_27 =>
 grdW Tryz.prog X_22 w_21 x34_25 true (vS (binS .eql 3 (.tmp 38) (.const (I 0)) x38_27 (I 0))) fun x39_28 =>
 rdW Tryz.prog X_22 w_21 (pickN x34_25 x39_28 (B false)) fun x40_29 =>
 un (gSel x40_29 true p0_14) fun u_30 =>
 grdW Tryz.prog X_22 w_21 x40_29 true (vS (lnS 23 3 u_30)) fun x44_31 =>
 grdW Tryz.prog X_22 w_21 x40_29 true (vS (binS .eql 3 (.tmp 44) (.const (I 0)) x44_31 (I 0))) fun x45_32 =>
 rdW Tryz.prog X_22 w_21 (pickN x40_29 x45_32 (B false)) fun x46_33 =>
 un (gSel x46_33 true p0_15) fun u_34 =>
 grdW Tryz.prog X_22 w_21 x46_33 true (vS (lnS 22 3 u_34)) fun x50_35 =>
 grdW Tryz.prog X_22 w_21 x46_33 true (vS (binS .eql 3 (.tmp 50) (.const (I 0)) x50_35 (I 0))) fun x51_36 =>
 rdW Tryz.prog X_22 w_21 (pickN x46_33 x51_36 (B false)) fun x52_37 =>
 un (gSel x52_37 true p0_16) fun u_38 =>
 grdW Tryz.prog X_22 w_21 x52_37 true (vS (lnS 54 3 u_38)) fun x56_39 =>
 grdW Tryz.prog X_22 w_21 x52_37 true (vS (binS .eql 3 (.tmp 56) (.const (I 0)) x56_39 (I 0))) fun x57_40 =>
 rdW Tryz.prog X_22 w_21 (pickN x52_37 x57_40 (B false)) fun x58_41 =>
 un (gSel x58_41 true (.agg #[(I p0_17), (I p0_18), (.float .f64 p0_19), (.float .f64 p0_20), (I p0_21), (I p0_22), (I p0_23), (I p0_24), (I p0_25), (I p0_26), p0_27, p0_28])) fun u_42 =>
 jn (fun (x62_43 : Value) (w_44 : World) (X_45 : XS) =>
 rdW Tryz.prog X_45 w_44 (pickN x58_41 x62_43 (B false)) fun x63_47 =>
 (fin R X_45 w_44 x63_47)) fun k_46 =>
 (gE x58_41 true (eC Tryz.prog R X_22 w_21 true 298 #[u_42] k_46) (k_46 undef w_21 X_22))) fun k_23 =>
 (gE x28_18 true (eC Tryz.prog R X0 w0 true 111 #[u_19] k_23) (k_23 undef w0 X0)))
theorem ok_recs_zero {R : Ending → World → Prop} {w0 : World} {p0_0 p0_1 p0_2 p0_3 p0_4 p0_5 p0_6 p0_7 p0_8 p0_9 : Int} {p0_10 : Bool} {p0_11 : Int} {p0_12 : Nat} {p0_13 p0_14 p0_15 p0_16 : Value} {p0_17 p0_18 : Int} {p0_19 p0_20 : Nat} {p0_21 p0_22 p0_23 p0_24 p0_25 p0_26 : Int} {p0_27 p0_28 : Value} (h : vc_recs_zero R w0 (old w0) p0_0 p0_1 p0_2 p0_3 p0_4 p0_5 p0_6 p0_7 p0_8 p0_9 p0_10 p0_11 p0_12 p0_13 p0_14 p0_15 p0_16 p0_17 p0_18 p0_19 p0_20 p0_21 p0_22 p0_23 p0_24 p0_25 p0_26 p0_27 p0_28) : Calls Tryz.prog 223 #[(.agg #[(I p0_0), (I p0_1), (I p0_2), (I p0_3), (I p0_4), (I p0_5), (I p0_6), (I p0_7), (I p0_8), (I p0_9), (B p0_10), (I p0_11), (.float .f64 p0_12), p0_13, p0_14, p0_15, p0_16, (I p0_17), (I p0_18), (.float .f64 p0_19), (.float .f64 p0_20), (I p0_21), (I p0_22), (I p0_23), (I p0_24), (I p0_25), (I p0_26), p0_27, p0_28])] w0 R :=
  calls_of_vc (pl := pl_recs_zero) Tryz.func223 (by kernel_rfl) (by kernel_rfl) h
noncomputable def pl_recs_fields : Plan := ⟨134, [(1, (Tryz.prog.cellsOf 117))], [5, 9, 14, 18, 24, 26, 28, 30, 36, 42, 46, 48, 54, 60, 76, 81, 87, 92, 97, 101, 106, 112, 117, 119, 121, 123, 126, 130], [0, 2, 3, 4, 6, 7, 12, 22, 40, 52, 57, 85, 90, 95, 110, 115], [17, 19, 20, 35, 37, 38, 45, 47, 49, 50, 67, 68, 69, 71, 72, 73, 75, 77, 78, 80, 82, 83, 100, 102, 103, 105, 107, 108, 129, 131, 132], []⟩
def vc_recs_fields (R : Ending → World → Prop) (w0 : World) (X0 : XS) (p0_0 p0_1 p0_2 p0_3 p0_4 p0_5 p0_6 p0_7 p0_8 p0_9 : Int) (p0_10 : Bool) (p0_11 : Int) (p0_12 : Nat) (p0_13 p0_14 p0_15 p0_16 : Value) (p0_17 p0_18 : Int) (p0_19 p0_20 : Nat) (p0_21 p0_22 p0_23 p0_24 p0_25 p0_26 : Int) (p0_27 p0_28 : Value) : Prop :=
 ((rdV Tryz.prog X0 w0 (binS .eql 3 (.tmp 6) (.const (I 1)) (I p0_0) (I 1)) fun x8_6 =>
 (condW x8_6
 (eC Tryz.prog R X0 w0 true 167 #[(.agg #[(I p0_17), (I p0_18), (.float .f64 p0_19), (.float .f64 p0_20), (I p0_21), (I p0_22), (I p0_23), (I p0_24), (I p0_25), (I p0_26), p0_27, p0_28])] fun x11_8 w_9 X_10 =>
 (fin R X_10 w_9 x11_8))
 (rdV Tryz.prog X0 w0 (binS .eql 3 (.tmp 6) (.const (I 2)) (I p0_0) (I 2)) fun x13_12 =>
 (condW x13_12
 (rdV Tryz.prog X0 w0 (binOp .geq 3 (I p0_11) (I 0)) fun x16_14 =>
 un (gSel x16_14 true (I p0_11)) fun u_15 =>
 grdW Tryz.prog X0 w0 x16_14 true (vS (binOp .leq 3 u_15 (I 281474976710656))) fun x20_16 =>
 rdW Tryz.prog X0 w0 (pickN x16_14 x20_16 (B false)) fun x21_17 =>
 (fin R X0 w0 x21_17))
 (rdV Tryz.prog X0 w0 (binS .eql 3 (.tmp 6) (.const (I 3)) (I p0_0) (I 3)) fun x23_19 =>
 (condW x23_19
 (rdV Tryz.prog X0 w0 (bld 229 #[(I p0_1), (I p0_2), (I p0_3), (I p0_4), (I p0_5), (I p0_6), p0_13, p0_14] #[(0, (.agg #[(I p0_1), (I p0_2), (I p0_3)])), (1, (.agg #[(I p0_4), (I p0_5), (I p0_6)])), (2, p0_13), (3, p0_14)]) fun x32_21 =>
 eC Tryz.prog R X0 w0 true 250 #[x32_21] fun x33_22 w_23 X_24 =>
 rdV Tryz.prog X_24 w_23 (binS .eql 29 (.tmp 33) (.const (I 0)) x33_22 (I 0)) fun x34_25 =>
 un (gSel x34_25 true p0_15) fun u_26 =>
 jn (fun (x38_27 : Value) (w_28 : World) (X_29 : XS) =>
 rdW Tryz.prog X_29 w_28 (pickN x34_25 x38_27 (B false)) fun x39_31 =>
 (fin R X_29 w_28 x39_31)) fun k_30 =>
 (gE x34_25 true (eC Tryz.prog R X_24 w_23 true 243 #[u_26] k_30) (k_30 undef w_23 X_24)))
 (rdV Tryz.prog X0 w0 (binS .eql 3 (.tmp 6) (.const (I 4)) (I p0_0) (I 4)) fun x41_33 =>
 (condW x41_33
 (eC Tryz.prog R X0 w0 true 238 #[(.agg #[(I p0_1), (I p0_2), (I p0_3)])] fun x44_35 w_36 X_37 =>
 un (gSel x44_35 true (B p0_10)) fun u_38 =>
 un (gSel x44_35 true (.agg #[(I p0_4), (I p0_5), (I p0_6)])) fun u_39 =>
 jn (fun (x50_40 : Value) (w_41 : World) (X_42 : XS) =>
 rdW Tryz.prog X_42 w_41 (pickN x44_35 x50_40 (B false)) fun x51_44 =>
 (fin R X_42 w_41 x51_44)) fun k_43 =>
 (gE x44_35 true (eC Tryz.prog R X_37 w_36 true 299 #[u_38, u_39] k_43) (k_43 undef w_36 X_37)))
 (rdV Tryz.prog X0 w0 (binS .eql 3 (.tmp 6) (.const (I 5)) (I p0_0) (I 5)) fun x53_46 =>
 (condW x53_46
 (eC Tryz.prog R X0 w0 true 165 #[(.agg #[(I p0_4), (I p0_5), (I p0_6)])] fun x56_48 w_49 X_50 =>
 (fin R X_50 w_49 x56_48))
 (rdV Tryz.prog X0 w0 (binS .eql 3 (.tmp 6) (.const (I 6)) (I p0_0) (I 6)) fun x58_52 =>
 (condW x58_52
 (eC Tryz.prog R X0 w0 true 300 #[(.float .f64 p0_12)] fun x62_54 w_55 X_56 =>
 rdV Tryz.prog X_56 w_55 (Instr.extract x62_54 0) fun x63_57 =>
 rdV Tryz.prog X_56 w_55 (Instr.extract x62_54 1) fun x64_58 =>
 (rdV Tryz.prog X_56 w_55 (binS .eql 29 (.tmp 65) (.const (I 0)) x64_58 (I 0)) fun x66_60 =>
 un (gSel x66_60 true x63_57) fun u_61 =>
 grdW Tryz.prog X_56 w_55 x66_60 true (vS (binOp .gtr 40 u_61 (.float .f64 0))) fun x69_62 =>
 rdW Tryz.prog X_56 w_55 (pickN x66_60 x69_62 (B false)) fun x70_63 =>
 un (gSel x70_63 true x63_57) fun u_64 =>
 grdW Tryz.prog X_56 w_55 x70_63 true (vS (binOp .lss 40 u_64 (.float .f64 4607182418800017408))) fun x73_65 =>
 rdW Tryz.prog X_56 w_55 (pickN x70_63 x73_65 (B false)) fun x74_66 =>
 un (gSel x74_66 true (I p0_11)) fun u_67 =>
 jn (fun (x78_68 : Value) (w_69 : World) (X_70 : XS) =>
 rdW Tryz.prog X_70 w_69 (pickN x74_66 x78_68 (B false)) fun x79_72 =>
 un (gSel x79_72 true (.agg #[(I p0_4), (I p0_5), (I p0_6)])) fun u_73 =>
 jn (fun (x83_74 : Value) (w_75 : World) (X_76 : XS) =>
 rdW Tryz.prog X_76 w_75 (pickN x79_72 x83_74 (B false)) fun x84_78 =>
 (fin R X_76 w_75 x84_78)) fun k_77 =>
 (gE x79_72 true (eC Tryz.prog R X_70 w_69 true 165 #[u_73] k_77) (k_77 undef w_69 X_70))) fun k_71 =>
 (gE x74_66 true (eC Tryz.prog R X_56 w_55 true 301 #[u_67] k_71) (k_71 undef w_55 X_56))))
 (rdV Tryz.prog X0 w0 (binS .eql 3 (.tmp 6) (.const (I 7)) (I p0_0) (I 7)) fun x86_80 =>
 (condW x86_80
 (eC Tryz.prog R X0 w0 true 301 #[(I p0_11)] fun x89_82 w_83 X_84 =>
 (fin R X_84 w_83 x89_82))
 (rdV Tryz.prog X0 w0 (binS .eql 3 (.tmp 6) (.const (I 8)) (I p0_0) (I 8)) fun x91_86 =>
 (condW x91_86
 (rdV Tryz.prog X0 w0 (binOp .geq 3 (I p0_11) (I 1)) fun x94_88 =>
 (fin R X0 w0 x94_88))
 (rdV Tryz.prog X0 w0 (binS .eql 3 (.tmp 6) (.const (I 9)) (I p0_0) (I 9)) fun x96_90 =>
 (condW x96_90
 (eC Tryz.prog R X0 w0 true 238 #[(.agg #[(I p0_1), (I p0_2), (I p0_3)])] fun x99_92 w_93 X_94 =>
 un (gSel x99_92 true (.agg #[(I p0_4), (I p0_5), (I p0_6)])) fun u_95 =>
 jn (fun (x103_96 : Value) (w_97 : World) (X_98 : XS) =>
 rdW Tryz.prog X_98 w_97 (pickN x99_92 x103_96 (B false)) fun x104_100 =>
 un (gSel x104_100 true p0_15) fun u_101 =>
 jn (fun (x108_102 : Value) (w_103 : World) (X_104 : XS) =>
 rdW Tryz.prog X_104 w_103 (pickN x104_100 x108_102 (B false)) fun x109_106 =>
 (fin R X_104 w_103 x109_106)) fun k_105 =>
 (gE x104_100 true (eC Tryz.prog R X_98 w_97 true 243 #[u_101] k_105) (k_105 undef w_97 X_98))) fun k_99 =>
 (gE x99_92 true (eC Tryz.prog R X_94 w_93 true 302 #[u_95] k_99) (k_99 undef w_93 X_94)))
 (rdV Tryz.prog X0 w0 (binS .eql 3 (.tmp 6) (.const (I 10)) (I p0_0) (I 10)) fun x111_108 =>
 (condW x111_108
 (eC Tryz.prog R X0 w0 true 238 #[(.agg #[(I p0_1), (I p0_2), (I p0_3)])] fun x114_110 w_111 X_112 =>
 (fin R X_112 w_111 x114_110))
 (rdV Tryz.prog X0 w0 (binS .eql 3 (.tmp 6) (.const (I 11)) (I p0_0) (I 11)) fun x116_114 =>
 (condW x116_114
 (eC Tryz.prog R X0 w0 true 168 #[(.agg #[(I p0_7), (I p0_8), (I p0_9)]), (.agg #[(I p0_4), (I p0_5), (I p0_6)]), (.agg #[(I p0_1), (I p0_2), (I p0_3)]), p0_14] fun x125_116 w_117 X_118 =>
 (fin R X_118 w_117 x125_116))
 (((eC Tryz.prog R X0 w0 true 165 #[(.agg #[(I p0_4), (I p0_5), (I p0_6)])] fun x128_120 w_121 X_122 =>
 un (gSel x128_120 true p0_16) fun u_123 =>
 jn (fun (x132_124 : Value) (w_125 : World) (X_126 : XS) =>
 rdW Tryz.prog X_126 w_125 (pickN x128_120 x132_124 (B false)) fun x133_128 =>
 (fin R X_126 w_125 x133_128)) fun k_127 =>
 (gE x128_120 true (eC Tryz.prog R X_122 w_121 true 303 #[u_123] k_127) (k_127 undef w_121 X_122))))))))))))))))))))))))))))
theorem ok_recs_fields {R : Ending → World → Prop} {w0 : World} {p0_0 p0_1 p0_2 p0_3 p0_4 p0_5 p0_6 p0_7 p0_8 p0_9 : Int} {p0_10 : Bool} {p0_11 : Int} {p0_12 : Nat} {p0_13 p0_14 p0_15 p0_16 : Value} {p0_17 p0_18 : Int} {p0_19 p0_20 : Nat} {p0_21 p0_22 p0_23 p0_24 p0_25 p0_26 : Int} {p0_27 p0_28 : Value} (h : vc_recs_fields R w0 (old w0) p0_0 p0_1 p0_2 p0_3 p0_4 p0_5 p0_6 p0_7 p0_8 p0_9 p0_10 p0_11 p0_12 p0_13 p0_14 p0_15 p0_16 p0_17 p0_18 p0_19 p0_20 p0_21 p0_22 p0_23 p0_24 p0_25 p0_26 p0_27 p0_28) : Calls Tryz.prog 224 #[(.agg #[(I p0_0), (I p0_1), (I p0_2), (I p0_3), (I p0_4), (I p0_5), (I p0_6), (I p0_7), (I p0_8), (I p0_9), (B p0_10), (I p0_11), (.float .f64 p0_12), p0_13, p0_14, p0_15, p0_16, (I p0_17), (I p0_18), (.float .f64 p0_19), (.float .f64 p0_20), (I p0_21), (I p0_22), (I p0_23), (I p0_24), (I p0_25), (I p0_26), p0_27, p0_28])] w0 R :=
  calls_of_vc (pl := pl_recs_fields) Tryz.func224 (by kernel_rfl) (by kernel_rfl) h
noncomputable def pl_num_Bits : Plan := ⟨6, [], [], [0, 2], [], []⟩
def vc_num_Bits (R : Ending → World → Prop) (w0 : World) (X0 : XS) (p0 : Nat) : Prop :=
 (eC Tryz.prog R X0 w0 true 304 #[(.float .f64 p0)] fun x4_3 w_4 X_5 =>
 eC Tryz.prog R X_5 w_4 true 111 #[x4_3] fun x5_6 w_7 X_8 =>
 (fin R X_8 w_7 x5_6))
theorem ok_num_Bits {R : Ending → World → Prop} {w0 : World} {p0 : Nat} (h : vc_num_Bits R w0 (old w0) p0) : Calls Tryz.prog 225 #[(.float .f64 p0)] w0 R :=
  calls_of_vc (pl := pl_num_Bits) Tryz.func225 (by kernel_rfl) (by kernel_rfl) h
noncomputable def pl_mvcc_TxnMay : Plan := ⟨21, [(1, (Tryz.prog.cellsOf 33))], [3, 7, 12, 17], [0, 2], [6, 8, 9, 11, 13, 14, 16, 18, 19], []⟩
def vc_mvcc_TxnMay (R : Ending → World → Prop) (w0 : World) (X0 : XS) (p0_0 p0_1 p0_2 : Int) : Prop :=
 (rdV Tryz.prog X0 w0 (binOp .geq 3 (I p0_0) (I 1)) fun x5_3 =>
 un (gSel x5_3 true (I p0_0)) fun u_4 =>
 grdW Tryz.prog X0 w0 x5_3 true (vS (binOp .leq 3 u_4 (I 2))) fun x9_5 =>
 rdW Tryz.prog X0 w0 (pickN x5_3 x9_5 (B false)) fun x10_6 =>
 un (gSel x10_6 true (I p0_1)) fun u_7 =>
 grdW Tryz.prog X0 w0 x10_6 true (vS (binOp .geq 3 u_7 (I 1))) fun x14_8 =>
 rdW Tryz.prog X0 w0 (pickN x10_6 x14_8 (B false)) fun x15_9 =>
 un (gSel x15_9 true (I p0_2)) fun u_10 =>
 grdW Tryz.prog X0 w0 x15_9 true (vS (binOp .geq 3 u_10 (I 1))) fun x19_11 =>
 rdW Tryz.prog X0 w0 (pickN x15_9 x19_11 (B false)) fun x20_12 =>
 (fin R X0 w0 x20_12))
theorem ok_mvcc_TxnMay {R : Ending → World → Prop} {w0 : World} {p0_0 p0_1 p0_2 : Int} (h : vc_mvcc_TxnMay R w0 (old w0) p0_0 p0_1 p0_2) : Calls Tryz.prog 238 #[(.agg #[(I p0_0), (I p0_1), (I p0_2)])] w0 R :=
  calls_of_vc (pl := pl_mvcc_TxnMay) Tryz.func238 (by kernel_rfl) (by kernel_rfl) h
noncomputable def pl_recs_Parts : Plan := ⟨35, [], [], [0, 2, 3, 4, 5, 6, 7, 8, 30], [14, 15, 16, 18, 19, 20, 21, 22, 23, 24, 25, 26, 27, 28, 29], [7]⟩
def vc_recs_Parts (R : Ending → World → Prop) (w0 : World) (X0 : XS) (p0 : Value) : Prop :=
 (rdV Tryz.prog X0 w0 (lnS 22 3 p0) fun x6_4 =>
 (lp1 X0 w0 (I 0) 7 fun J_6 n_7 v_11 w_9 X_10 =>
 rdV Tryz.prog X_10 w_9 (binOp .lss 3 v_11 x6_4) fun x8_13 =>
 (condW x8_13
 ((rdV Tryz.prog X_10 w_9 (ixS 22 1 p0 v_11) fun x10_18 =>
 rdV Tryz.prog X_10 w_9 (ld1 3 x10_18) fun x11_19 =>
 (rdV Tryz.prog X_10 w_9 (binOp .lss 3 x11_19 (I 1)) fun x13_21 =>
 un (gSel x13_21 false x11_19) fun u_22 =>
 grdW Tryz.prog X_10 w_9 x13_21 false (vS (binOp .gtr 3 u_22 (I 12))) fun x16_23 =>
 rdW Tryz.prog X_10 w_9 (pickN x13_21 (B true) x16_23) fun x17_24 =>
 un (gSel x17_24 false v_11) fun u_25 =>
 grdW Tryz.prog X_10 w_9 x17_24 false (vS (binOp .gtr 3 u_25 (I 0))) fun x20_26 =>
 un (gSel x17_24 false x20_26) fun u_27 =>
 un (gSel u_27 true p0) fun u_28 =>
 un (gSel u_27 true v_11) fun u_29 =>
 grdW Tryz.prog X_10 w_9 u_27 true (vS (binOp .sub 3 u_29 (I 1))) fun x24_30 =>
 grdW Tryz.prog X_10 w_9 u_27 true (vS (ixS 22 1 u_28 x24_30)) fun x25_31 =>
 grdW Tryz.prog X_10 w_9 u_27 true (vS (ld1 3 x25_31)) fun x26_32 =>
 un (gSel u_27 true x11_19) fun u_33 =>
 grdW Tryz.prog X_10 w_9 u_27 true (vS (binOp .geq 3 x26_32 u_33)) fun x28_34 =>
 grdW Tryz.prog X_10 w_9 x17_24 false (pickN u_27 x28_34 (B false)) fun x29_35 =>
 rdW Tryz.prog X_10 w_9 (pickN x17_24 (B true) x29_35) fun x30_36 =>
 (condW x30_36
 (fin R X_10 w_9 (B false))
 (((rdV Tryz.prog X_10 w_9 (binOp .add 3 v_11 (I 1)) fun x31_38 =>
 nx1 J_6 n_7 x31_38 w_9 X_10)))))))
 (((rdV Tryz.prog X_10 w_9 (lnS 22 3 p0) fun x33_40 =>
 rdV Tryz.prog X_10 w_9 (binOp .gtr 3 x33_40 (I 0)) fun x34_41 =>
 (fin R X_10 w_9 x34_41)))))))
theorem ok_recs_Parts {R : Ending → World → Prop} {w0 : World} {p0 : Value} (h : vc_recs_Parts R w0 (old w0) p0) : Calls Tryz.prog 243 #[p0] w0 R :=
  calls_of_vc (pl := pl_recs_Parts) Tryz.func243 (by kernel_rfl) (by kernel_rfl) h
noncomputable def pl_place_May : Plan := ⟨33, [(1, (Tryz.prog.cellsOf 42))], [3, 7, 12, 17, 22, 27, 29], [0, 2], [6, 8, 9, 11, 13, 14, 16, 18, 19, 21, 23, 24, 26, 28, 30, 31], []⟩
def vc_place_May (R : Ending → World → Prop) (w0 : World) (X0 : XS) (p0_0 p0_1 : Int) (p0_2 p0_3 : Nat) : Prop :=
 (rdV Tryz.prog X0 w0 (binOp .geq 3 (I p0_0) (I 1)) fun x5_3 =>
 un (gSel x5_3 true (I p0_0)) fun u_4 =>
 grdW Tryz.prog X0 w0 x5_3 true (vS (binOp .leq 3 u_4 (I 12))) fun x9_5 =>
 rdW Tryz.prog X0 w0 (pickN x5_3 x9_5 (B false)) fun x10_6 =>
 un (gSel x10_6 true (I p0_1)) fun u_7 =>
 grdW Tryz.prog X0 w0 x10_6 true (vS (binOp .geq 3 u_7 (I 0))) fun x14_8 =>
 rdW Tryz.prog X0 w0 (pickN x10_6 x14_8 (B false)) fun x15_9 =>
 un (gSel x15_9 true (.float .f64 p0_2)) fun u_10 =>
 jn (fun (x19_11 : Value) (w_12 : World) (X_13 : XS) =>
 rdW Tryz.prog X_13 w_12 (pickN x15_9 x19_11 (B false)) fun x20_15 =>
 un (gSel x20_15 true (.float .f64 p0_3)) fun u_16 =>
 jn (fun (x24_17 : Value) (w_18 : World) (X_19 : XS) =>
 rdW Tryz.prog X_19 w_18 (pickN x20_15 x24_17 (B false)) fun x25_21 =>
 un (gSel x25_21 true (.float .f64 p0_2)) fun u_22 =>
 un (gSel x25_21 true (.float .f64 p0_3)) fun u_23 =>
 grdW Tryz.prog X_19 w_18 x25_21 true (vS (binOp .lss 40 u_22 u_23)) fun x31_24 =>
 rdW Tryz.prog X_19 w_18 (pickN x25_21 x31_24 (B false)) fun x32_25 =>
 (fin R X_19 w_18 x32_25)) fun k_20 =>
 (gE x20_15 true (eC Tryz.prog R X_13 w_12 true 314 #[u_16] k_20) (k_20 undef w_12 X_13))) fun k_14 =>
 (gE x15_9 true (eC Tryz.prog R X0 w0 true 314 #[u_10] k_14) (k_14 undef w0 X0)))
theorem ok_place_May {R : Ending → World → Prop} {w0 : World} {p0_0 p0_1 : Int} {p0_2 p0_3 : Nat} (h : vc_place_May R w0 (old w0) p0_0 p0_1 p0_2 p0_3) : Calls Tryz.prog 245 #[(.agg #[(I p0_0), (I p0_1), (.float .f64 p0_2), (.float .f64 p0_3)])] w0 R :=
  calls_of_vc (pl := pl_place_May) Tryz.func245 (by kernel_rfl) (by kernel_rfl) h
noncomputable def pl_mvcc_Load : Plan := ⟨80, [(9, (Tryz.prog.cellsOf 288)), (11, (Tryz.prog.cellsOf 229)), (13, (Tryz.prog.cellsOf 229))], [30, 32, 35, 51, 74], [0, 1, 4, 5, 6, 7, 12, 14, 16, 17, 18, 19, 25, 38, 39, 40, 41, 56, 60, 62, 66], [], [7, 18, 40]⟩
def vc_mvcc_Load (R : Ending → World → Prop) (w0 : World) (X0 : XS) (p0 p1 : Value) : Prop :=
 (eC Tryz.prog R X0 w0 true 315 #[] fun x15_3 w_4 X_5 =>
 ((rdV Tryz.prog X_5 w_4 (lnS 43 3 p0) fun x17_9 =>
 (lp2 X_5 w_4 (I 0) (.string { data := #[] }) 18 7 fun J_11 n_12 v_16 v_17 w_14 X_15 =>
 rdV Tryz.prog X_15 w_14 (binOp .lss 3 v_16 x17_9) fun x19_19 =>
 (condW x19_19
 ((rdV Tryz.prog X_15 w_14 (ixS 43 2 p0 v_16) fun x20_24 =>
 rdV Tryz.prog X_15 w_14 (ldA 288 2 x20_24) fun x21_25 =>
 un (Value.agg (Value.cells x21_25)) fun u_26 =>
 chk (List.length (Array.toList (Value.cells x21_25)) == 2) (chk (List.all (Array.toList (Value.cells x21_25)) one) ((chk (isA u_26) (un (subOf u_26 0 2) fun u_29 =>
 eC Tryz.prog R X_15 w_14 true 316 #[u_29, v_17] fun x24_30 w_31 X_32 =>
 rdV Tryz.prog X_32 w_31 (Op.unary UnOp.not x24_30) fun x25_33 =>
 (condW x25_33
 ((fin R X_32 w_31 (Value.tuple #[(.pointer none), (I 4)])))
 ((rdW Tryz.prog X_32 w_31 (nilN x15_3) fun x27_36 =>
 rdV Tryz.prog X_32 w_31 (fld 382 0 0 1 x27_36) fun x28_37 =>
 rdV Tryz.prog X_32 w_31 (ld1 379 x28_37) fun x29_38 =>
 chk (isA u_26) (un (cellOf u_26 1) fun u_39 =>
 eC Tryz.prog R X_32 w_31 false 317 #[u_39] fun x34_40 w_41 X_42 =>
 un (cellOf u_26 0) fun u_43 =>
 eU Tryz.prog R X_42 w_41 true (Instr.mapUpdate 379 x29_38 u_43 x34_40) fun _ w_44 X_45 =>
 (chk (isA u_26) (((rdV Tryz.prog X_45 w_44 (binOp .add 3 v_16 (I 1)) fun x37_46 =>
 nx2 J_11 n_12 x37_46 u_43 w_44 X_45))))))))))))))
 (((rdV Tryz.prog X_15 w_14 (lnS 44 3 p1) fun x39_49 =>
 (lp1 X_15 w_14 (I 0) 40 fun J_51 n_52 v_56 w_54 X_55 =>
 rdV Tryz.prog X_55 w_54 (binOp .lss 3 v_56 x39_49) fun x41_58 =>
 (condW x41_58
 ((rdV Tryz.prog X_55 w_54 (ixS 44 8 p1 v_56) fun x42_63 =>
 rdV Tryz.prog X_55 w_54 (ldA 229 8 x42_63) fun x43_64 =>
 un (Value.agg (Value.cells x43_64)) fun u_65 =>
 chk (List.length (Array.toList (Value.cells x43_64)) == 8) (chk (List.all (Array.toList (Value.cells x43_64)) one) ((chk (isA u_65) (un (subOf u_65 0 8) fun u_67 =>
 eC Tryz.prog R X_55 w_54 true 250 #[u_67] fun x45_68 w_69 X_70 =>
 (rdW Tryz.prog X_70 w_69 (nilN x15_3) fun x48_72 =>
 rdV Tryz.prog X_70 w_69 (fld 382 1 1 1 x48_72) fun x49_73 =>
 rdV Tryz.prog X_70 w_69 (ld1 380 x49_73) fun x50_74 =>
 chk (isA u_65) (un (subOf u_65 0 3) fun u_75 =>
 rdV Tryz.prog X_70 w_69 (Instr.lookup 380 x50_74 u_75 true) fun x53_76 =>
 rdV Tryz.prog X_70 w_69 (Instr.extract x53_76 0) fun x54_77 =>
 rdV Tryz.prog X_70 w_69 (Instr.extract x53_76 1) fun x55_78 =>
 un (Value.agg (Value.cells x54_77)) fun _ =>
 chk (List.length (Array.toList (Value.cells x54_77)) == 8) (chk (List.all (Array.toList (Value.cells x54_77)) one) ((rdV Tryz.prog X_70 w_69 (binS .neq 29 (.tmp 57) (.const (I 0)) x45_68 (I 0)) fun x58_83 =>
 (condW x58_83
 ((fin R X_70 w_69 (Value.tuple #[(.pointer none), x45_68])))
 ((condW x55_78
 ((fin R X_70 w_69 (Value.tuple #[(.pointer none), (I 9)])))
 (chk (isA u_65) (eC Tryz.prog R X_70 w_69 true 318 #[x15_3, u_67] fun x65_88 w_89 X_90 =>
 (condW x65_88
 ((fin R X_90 w_89 (Value.tuple #[(.pointer none), (I 18)])))
 (chk (isA u_65) (eC Tryz.prog R X_90 w_89 true 319 #[x15_3, u_67] fun x69_93 w_94 X_95 =>
 (condW x69_93
 ((fin R X_95 w_94 (Value.tuple #[(.pointer none), (I 20)])))
 (((rdW Tryz.prog X_95 w_94 (nilN x15_3) fun x71_97 =>
 rdV Tryz.prog X_95 w_94 (fld 382 1 1 1 x71_97) fun x72_98 =>
 rdV Tryz.prog X_95 w_94 (ld1 380 x72_98) fun x73_99 =>
 chk (isA u_65) (eC Tryz.prog R X_95 w_94 false 320 #[u_67] fun x77_100 w_101 X_102 =>
 eU Tryz.prog R X_102 w_101 true (Instr.mapUpdate 380 x73_99 u_75 x77_100) fun _ w_103 X_104 =>
 ((rdV Tryz.prog X_104 w_103 (binOp .add 3 v_56 (I 1)) fun x78_105 =>
 nx1 J_51 n_52 x78_105 w_103 X_104))))))))))))))))))))))))))
 ((((fin R X_55 w_54 (Value.tuple #[x15_3, (I 0)])))))))))))))))
theorem ok_mvcc_Load {R : Ending → World → Prop} {w0 : World} {p0 p1 : Value} (h : vc_mvcc_Load R w0 (old w0) p0 p1) : Calls Tryz.prog 246 #[p0, p1] w0 R :=
  calls_of_vc (pl := pl_mvcc_Load) Tryz.func246 (by kernel_rfl) (by kernel_rfl) h
noncomputable def pl_recs_StateMay_c1 : Plan := ⟨9, [], [], [0, 1, 3], [], []⟩
def vc_recs_StateMay_c1 (R : Ending → World → Prop) (w0 : World) (X0 : XS) (p0 : ByteArray) (c0 : Value) : Prop :=
 (rdV Tryz.prog X0 w0 (fld 46 0 0 4 c0) fun x4_3 =>
 rdV Tryz.prog X0 w0 (ldA 42 4 x4_3) fun x5_4 =>
 eC Tryz.prog R X0 w0 false 249 #[(.string p0)] fun x7_5 w_6 X_7 =>
 eC Tryz.prog R X_7 w_6 true 248 #[x5_4, x7_5] fun x8_8 w_9 X_10 =>
 (fin R X_10 w_9 x8_8))
theorem ok_recs_StateMay_c1 {R : Ending → World → Prop} {w0 : World} {p0 : ByteArray} {c0 : Value} (h : vc_recs_StateMay_c1 R w0 (old w0) p0 c0) : Calls Tryz.prog 247 #[(.string p0), c0] w0 R :=
  calls_of_vc (pl := pl_recs_StateMay_c1) Tryz.func247 (by kernel_rfl) (by kernel_rfl) h
noncomputable def pl_place_In : Plan := ⟨15, [(2, (Tryz.prog.cellsOf 42))], [6, 11], [0, 1, 4], [9, 10, 12, 13], []⟩
def vc_place_In (R : Ending → World → Prop) (w0 : World) (X0 : XS) (_p0_0 _p0_1 : Int) (p0_2 p0_3 p1 : Nat) : Prop :=
 (rdV Tryz.prog X0 w0 (binOp .geq 40 (.float .f64 p1) (.float .f64 p0_2)) fun x8_3 =>
 un (gSel x8_3 true (.float .f64 p1)) fun u_4 =>
 un (gSel x8_3 true (.float .f64 p0_3)) fun u_5 =>
 grdW Tryz.prog X0 w0 x8_3 true (vS (binOp .lss 40 u_4 u_5)) fun x13_6 =>
 rdW Tryz.prog X0 w0 (pickN x8_3 x13_6 (B false)) fun x14_7 =>
 (fin R X0 w0 x14_7))
theorem ok_place_In {R : Ending → World → Prop} {w0 : World} {p0_0 p0_1 : Int} {p0_2 p0_3 p1 : Nat} (h : vc_place_In R w0 (old w0) p0_0 p0_1 p0_2 p0_3 p1) : Calls Tryz.prog 248 #[(.agg #[(I p0_0), (I p0_1), (.float .f64 p0_2), (.float .f64 p0_3)]), (.float .f64 p1)] w0 R :=
  calls_of_vc (pl := pl_place_In) Tryz.func248 (by kernel_rfl) (by kernel_rfl) h
noncomputable def pl_place_Of : Plan := ⟨8, [], [], [0, 2], [], []⟩
def vc_place_Of (R : Ending → World → Prop) (w0 : World) (X0 : XS) (p0 : ByteArray) : Prop :=
 (eC Tryz.prog R X0 w0 true 321 #[(.string p0)] fun x4_3 w_4 X_5 =>
 rdV Tryz.prog X_5 w_4 (binOp .shr 196 x4_3 (Value.int IntKind.u64 11)) fun x5_6 =>
 rdV Tryz.prog X_5 w_4 (cvF 196 40 x5_6) fun x6_7 =>
 rdV Tryz.prog X_5 w_4 (binOp .quo 40 x6_7 (.float .f64 4845873199050653696)) fun x7_8 =>
 (fin R X_5 w_4 x7_8))
theorem ok_place_Of {R : Ending → World → Prop} {w0 : World} {p0 : ByteArray} (h : vc_place_Of R w0 (old w0) p0) : Calls Tryz.prog 249 #[(.string p0)] w0 R :=
  calls_of_vc (pl := pl_place_Of) Tryz.func249 (by kernel_rfl) (by kernel_rfl) h
noncomputable def pl_mvcc_PendingMay : Plan := ⟨45, [(1, (Tryz.prog.cellsOf 229)), (4, (Tryz.prog.cellsOf 53))], [6, 11, 16, 22, 27, 33, 40], [0, 2, 5, 10, 21, 34, 35, 36, 37, 43], [15, 17, 18, 19, 26, 28, 29, 30, 31], [36]⟩
def vc_mvcc_PendingMay (R : Ending → World → Prop) (w0 : World) (X0 : XS) (p0_0 p0_1 p0_2 p0_3 p0_4 p0_5 : Int) (p0_6 p0_7 : Value) : Prop :=
 (eC Tryz.prog R X0 w0 true 238 #[(.agg #[(I p0_0), (I p0_1), (I p0_2)])] fun x8_5 w_6 X_7 =>
 rdV Tryz.prog X_7 w_6 (Op.unary UnOp.not x8_5) fun x9_8 =>
 (condW x9_8
 (fin R X_7 w_6 (I 4))
 (eC Tryz.prog R X_7 w_6 true 165 #[(.agg #[(I p0_3), (I p0_4), (I p0_5)])] fun x13_11 w_12 X_13 =>
 rdV Tryz.prog X_13 w_12 (Op.unary UnOp.not x13_11) fun x14_14 =>
 un (gSel x14_14 false (.agg #[(I p0_3), (I p0_4), (I p0_5)])) fun u_15 =>
 grdW Tryz.prog X_13 w_12 x14_14 false (vS (bld 35 #[(I 0), (I 0), (I 0)] #[])) fun x18_16 =>
 grdW Tryz.prog X_13 w_12 x14_14 false (vS (binS .eql 35 (.tmp 17) (.tmp 18) u_15 x18_16)) fun x19_17 =>
 rdW Tryz.prog X_13 w_12 (pickN x14_14 (B true) x19_17) fun x20_18 =>
 (condW x20_18
 (fin R X_13 w_12 (I 17))
 (eC Tryz.prog R X_13 w_12 true 322 #[p0_6] fun x24_21 w_22 X_23 =>
 rdV Tryz.prog X_23 w_22 (Op.unary UnOp.not x24_21) fun x25_24 =>
 un (gSel x25_24 false p0_7) fun u_25 =>
 jn (fun (x29_26 : Value) (w_27 : World) (X_28 : XS) =>
 jn (fun (x30_30 : Value) (w_31 : World) (X_32 : XS) =>
 grdW Tryz.prog X_32 w_31 x25_24 false (vS (Op.unary UnOp.not x30_30)) fun x31_34 =>
 rdW Tryz.prog X_32 w_31 (pickN x25_24 (B true) x31_34) fun x32_35 =>
 (condW x32_35
 (fin R X_32 w_31 (I 4))
 (((rdV Tryz.prog X_32 w_31 (lnS 23 3 p0_7) fun x35_39 =>
 (lp1 X_32 w_31 (I 0) 36 fun J_41 n_42 v_46 w_44 X_45 =>
 rdV Tryz.prog X_45 w_44 (binOp .lss 3 v_46 x35_39) fun x37_48 =>
 (condW x37_48
 ((rdV Tryz.prog X_45 w_44 (ixS 23 4 p0_7 v_46) fun x38_53 =>
 rdV Tryz.prog X_45 w_44 (ldA 53 4 x38_53) fun x39_54 =>
 un (Value.agg (Value.cells x39_54)) fun u_55 =>
 chk (List.length (Array.toList (Value.cells x39_54)) == 4) (chk (List.all (Array.toList (Value.cells x39_54)) one) ((chk (isA u_55) (un (subOf u_55 1 3) fun u_57 =>
 eC Tryz.prog R X_45 w_44 true 158 #[u_57] fun x42_58 w_59 X_60 =>
 rdV Tryz.prog X_60 w_59 (Op.unary UnOp.not x42_58) fun x43_61 =>
 (condW x43_61
 (fin R X_60 w_59 (I 4))
 (((rdV Tryz.prog X_60 w_59 (binOp .add 3 v_46 (I 1)) fun x44_63 =>
 nx1 J_41 n_42 x44_63 w_59 X_60))))))))))
 (fin R X_45 w_44 (I 0))))))))) fun k_33 =>
 (gE x25_24 false (eC Tryz.prog R X_28 w_27 true 322 #[x29_26] k_33) (k_33 undef w_27 X_28))) fun k_29 =>
 (gE x25_24 false (eC Tryz.prog R X_23 w_22 true 323 #[u_25] k_29) (k_29 undef w_22 X_23)))))))
theorem ok_mvcc_PendingMay {R : Ending → World → Prop} {w0 : World} {p0_0 p0_1 p0_2 p0_3 p0_4 p0_5 : Int} {p0_6 p0_7 : Value} (h : vc_mvcc_PendingMay R w0 (old w0) p0_0 p0_1 p0_2 p0_3 p0_4 p0_5 p0_6 p0_7) : Calls Tryz.prog 250 #[(.agg #[(I p0_0), (I p0_1), (I p0_2), (I p0_3), (I p0_4), (I p0_5), p0_6, p0_7])] w0 R :=
  calls_of_vc (pl := pl_mvcc_PendingMay) Tryz.func250 (by kernel_rfl) (by kernel_rfl) h
noncomputable def pl_frame_put : Plan := ⟨19, [], [], [0, 1, 4], [], []⟩
def vc_frame_put (R : Ending → World → Prop) (w0 : World) (X0 : XS) (p0 : Value) (p1 : Int) : Prop :=
 (rdV Tryz.prog X0 w0 (cvI IntKind.u8 281 5 (Value.int IntKind.u32 p1)) fun x7_3 =>
 rdV Tryz.prog X0 w0 (binOp .shr 281 (Value.int IntKind.u32 p1) (Value.int IntKind.u64 8)) fun x9_4 =>
 rdV Tryz.prog X0 w0 (cvI IntKind.u8 281 5 x9_4) fun x10_5 =>
 rdV Tryz.prog X0 w0 (binOp .shr 281 (Value.int IntKind.u32 p1) (Value.int IntKind.u64 16)) fun x12_6 =>
 rdV Tryz.prog X0 w0 (cvI IntKind.u8 281 5 x12_6) fun x13_7 =>
 rdV Tryz.prog X0 w0 (binOp .shr 281 (Value.int IntKind.u32 p1) (Value.int IntKind.u64 24)) fun x15_8 =>
 rdV Tryz.prog X0 w0 (cvI IntKind.u8 281 5 x15_8) fun x16_9 =>
 eV Tryz.prog R X0 w0 true (bsS 95 5 1 4 #[(0, x7_3), (1, x10_5), (2, x13_7), (3, x16_9)]) fun x17_10 w_11 X_12 =>
 eV Tryz.prog R X_12 w_11 true (apS 95 5 1 1 95 p0 x17_10) fun x18_13 w_14 X_15 =>
 (fin R X_15 w_14 x18_13))
theorem ok_frame_put {R : Ending → World → Prop} {w0 : World} {p0 : Value} {p1 : Int} (h : vc_frame_put R w0 (old w0) p0 p1) : Calls Tryz.prog 251 #[p0, (Value.int IntKind.u32 p1)] w0 R :=
  calls_of_vc (pl := pl_frame_put) Tryz.func251 (by kernel_rfl) (by kernel_rfl) h
noncomputable def pl_disk_Disk_last : Plan := ⟨39, [], [], [0, 2, 7, 27], [], []⟩
def vc_disk_Disk_last (R : Ending → World → Prop) (w0 : World) (X0 : XS) (p0 : Value) : Prop :=
 ((jn (fun (w_25 : World) (X_26 : XS) =>
 (jn (fun (w_42 : World) (X_43 : XS) =>
 rdW Tryz.prog X_43 w_42 (nilN p0) fun x36_46 =>
 rdV Tryz.prog X_43 w_42 (fld 106 4 4 1 x36_46) fun x37_47 =>
 rdV Tryz.prog X_43 w_42 (ld1 4 x37_47) fun x38_48 =>
 (fin R X_43 w_42 x38_48)) fun k_44 =>
 rdW Tryz.prog X_26 w_25 (nilN p0) fun x24_30 =>
 rdV Tryz.prog X_26 w_25 (fld 106 4 4 1 x24_30) fun x25_31 =>
 rdV Tryz.prog X_26 w_25 (ld1 4 x25_31) fun x26_32 =>
 rdV Tryz.prog X_26 w_25 (Op.unary UnOp.not x26_32) fun x27_33 =>
 (condW x27_33
 (rdW Tryz.prog X_26 w_25 (nilN p0) fun x29_34 =>
 rdV Tryz.prog X_26 w_25 (fld 106 2 2 1 x29_34) fun x30_35 =>
 rdV Tryz.prog X_26 w_25 (ld1 3 x30_35) fun x31_36 =>
 rdV Tryz.prog X_26 w_25 (binOp .add 3 x31_36 (I 1)) fun x32_37 =>
 rdW Tryz.prog X_26 w_25 (nilN p0) fun x33_38 =>
 rdV Tryz.prog X_26 w_25 (fld 106 2 2 1 x33_38) fun x34_39 =>
 eU Tryz.prog R X_26 w_25 true (st1 3 1 x34_39 x32_37) fun _ w_40 X_41 =>
 (k_44 w_40 X_41))
 (k_44 w_25 X_26)))) fun k_27 =>
 rdW Tryz.prog X0 w0 (nilN p0) fun x4_4 =>
 rdV Tryz.prog X0 w0 (fld 106 3 3 1 x4_4) fun x5_5 =>
 rdV Tryz.prog X0 w0 (ld1 3 x5_5) fun x6_6 =>
 rdV Tryz.prog X0 w0 (binOp .gtr 3 x6_6 (I 0)) fun x7_7 =>
 (condW x7_7
 (rdW Tryz.prog X0 w0 (nilN p0) fun x9_9 =>
 rdV Tryz.prog X0 w0 (fld 106 3 3 1 x9_9) fun x10_10 =>
 rdV Tryz.prog X0 w0 (ld1 3 x10_10) fun x11_11 =>
 rdV Tryz.prog X0 w0 (binOp .sub 3 x11_11 (I 1)) fun x12_12 =>
 rdW Tryz.prog X0 w0 (nilN p0) fun x13_13 =>
 rdV Tryz.prog X0 w0 (fld 106 3 3 1 x13_13) fun x14_14 =>
 eU Tryz.prog R X0 w0 true (st1 3 1 x14_14 x12_12) fun _ w_15 X_16 =>
 (rdW Tryz.prog X_16 w_15 (nilN p0) fun x17_17 =>
 rdV Tryz.prog X_16 w_15 (fld 106 3 3 1 x17_17) fun x18_18 =>
 rdV Tryz.prog X_16 w_15 (ld1 3 x18_18) fun x19_19 =>
 rdV Tryz.prog X_16 w_15 (binS .eql 3 (.tmp 19) (.const (I 0)) x19_19 (I 0)) fun x20_20 =>
 rdW Tryz.prog X_16 w_15 (nilN p0) fun x21_21 =>
 rdV Tryz.prog X_16 w_15 (fld 106 4 4 1 x21_21) fun x22_22 =>
 eU Tryz.prog R X_16 w_15 true (st1 4 1 x22_22 x20_20) fun _ w_23 X_24 =>
 (k_27 w_23 X_24)))
 (k_27 w0 X0))))
theorem ok_disk_Disk_last {R : Ending → World → Prop} {w0 : World} {p0 : Value} (h : vc_disk_Disk_last R w0 (old w0) p0) : Calls Tryz.prog 252 #[p0] w0 R :=
  calls_of_vc (pl := pl_disk_Disk_last) Tryz.func252 (by kernel_rfl) (by kernel_rfl) h
noncomputable def pl_disk_Disk_Sync_c1 : Plan := ⟨20, [], [], [0, 1], [], []⟩
def vc_disk_Disk_Sync_c1 (R : Ending → World → Prop) (w0 : World) (X0 : XS) (c0 c1 : Value) : Prop :=
 rdV Tryz.prog X0 w0 (ld1 26 c0) fun x2_1 =>
 rdW Tryz.prog X0 w0 (nilN x2_1) fun x3_2 =>
 rdV Tryz.prog X0 w0 (fld 106 0 0 1 x3_2) fun x4_3 =>
 rdV Tryz.prog X0 w0 (ld1 104 x4_3) fun x5_4 =>
 rdV Tryz.prog X0 w0 (ld1 9 c1) fun x6_5 =>
 rdV Tryz.prog X0 w0 (Instr.lookup 104 x5_4 x6_5 false) fun x7_6 =>
 rdV Tryz.prog X0 w0 (ld1 26 c0) fun x8_7 =>
 rdW Tryz.prog X0 w0 (nilN x8_7) fun x9_8 =>
 rdV Tryz.prog X0 w0 (fld 106 0 0 1 x9_8) fun x10_9 =>
 rdV Tryz.prog X0 w0 (ld1 104 x10_9) fun x11_10 =>
 rdV Tryz.prog X0 w0 (ld1 9 c1) fun x12_11 =>
 rdV Tryz.prog X0 w0 (Instr.lookup 104 x11_10 x12_11 false) fun x13_12 =>
 rdW Tryz.prog X0 w0 (nilN x13_12) fun x14_13 =>
 rdV Tryz.prog X0 w0 (fld 141 0 0 1 x14_13) fun x15_14 =>
 rdV Tryz.prog X0 w0 (ld1 95 x15_14) fun x16_15 =>
 rdV Tryz.prog X0 w0 (lnS 95 3 x16_15) fun x17_16 =>
 rdW Tryz.prog X0 w0 (nilN x7_6) fun x18_17 =>
 rdV Tryz.prog X0 w0 (fld 141 1 1 1 x18_17) fun x19_18 =>
 eU Tryz.prog R X0 w0 true (st1 3 1 x19_18 x17_16) fun _ w_19 X_20 =>
 fin R X_20 w_19 (Value.tuple #[])
theorem ok_disk_Disk_Sync_c1 {R : Ending → World → Prop} {w0 : World} {c0 c1 : Value} (h : vc_disk_Disk_Sync_c1 R w0 (old w0) c0 c1) : Calls Tryz.prog 253 #[c0, c1] w0 R :=
  calls_of_vc (pl := pl_disk_Disk_Sync_c1) Tryz.func253 (by kernel_rfl) (by kernel_rfl) h
noncomputable def pl_frame_table : Plan := ⟨24, [(0, (Tryz.prog.cellsOf 353))], [], [1, 2, 3, 4, 5, 9, 10], [], [3, 4, 9]⟩
def vc_frame_table (R : Ending → World → Prop) (w0 : World) (X0 : XS) : Prop :=
 (eV Tryz.prog R X0 w0 true (Instr.alloc 353 true (Value.tuple #[])) fun x1_3 w_4 X_5 =>
 ((lp3 X_5 w_4 (I 0) undef undef 4 9 3 fun J_9 n_10 v_14 _ _ w_12 X_13 =>
 rdV Tryz.prog X_13 w_12 (binOp .lss 3 v_14 (I 256)) fun x5_18 =>
 (condW x5_18
 (((rdV Tryz.prog X_13 w_12 (cvI IntKind.u32 3 281 v_14) fun x8_24 =>
 ((lp2 X_13 w_12 (I 0) x8_24 9 3 fun J_28 n_29 v_33 v_34 w_31 X_32 =>
 rdV Tryz.prog X_32 w_31 (binOp .lss 3 v_33 (I 8)) fun x10_36 =>
 (condW x10_36
 ((rdV Tryz.prog X_32 w_31 (binOp .shr 281 v_34 (Value.int IntKind.u64 1)) fun x12_40 =>
 rdV Tryz.prog X_32 w_31 (binOp .and 281 v_34 (Value.int IntKind.u32 1)) fun x14_41 =>
 rdV Tryz.prog X_32 w_31 (Op.unary UnOp.neg x14_41) fun x15_42 =>
 rdV Tryz.prog X_32 w_31 (binOp .and 281 (Value.int IntKind.u32 2197175160) x15_42) fun x16_43 =>
 rdV Tryz.prog X_32 w_31 (binOp .xor 281 x12_40 x16_43) fun x17_44 =>
 ((rdV Tryz.prog X_32 w_31 (binOp .add 3 v_33 (I 1)) fun x18_45 =>
 nx2 J_28 n_29 x18_45 x17_44 w_31 X_32))))
 (((rdV Tryz.prog X_32 w_31 (Instr.indexAt 353 x1_3 v_14) fun x21_46 =>
 eU Tryz.prog R X_32 w_31 true (st1 281 1 x21_46 v_34) fun _ w_47 X_48 =>
 ((rdV Tryz.prog X_48 w_47 (binOp .add 3 v_14 (I 1)) fun x22_49 =>
 nx3 J_9 n_10 x22_49 v_33 v_34 w_47 X_48)))))))))))
 (((rdV Tryz.prog X_13 w_12 (ldA 353 256 x1_3) fun x23_51 =>
 un (Value.agg (Value.cells x23_51)) fun u_52 =>
 chk (List.length (Array.toList (Value.cells x23_51)) == 256) (chk (List.all (Array.toList (Value.cells x23_51)) one) (un (subOf u_52 0 256) fun u_53 =>
 chk (List.all [u_52] isA) (fin R X_13 w_12 u_53))))))))))
theorem ok_frame_table {R : Ending → World → Prop} {w0 : World} (h : vc_frame_table R w0 (old w0)) : Calls Tryz.prog 287 #[] w0 R :=
  calls_of_vc (pl := pl_frame_table) Tryz.func287 (by kernel_rfl) (by kernel_rfl) h
noncomputable def pl_wire_Writer_Text : Plan := ⟨17, [], [], [0, 1], [], []⟩
def vc_wire_Writer_Text (R : Ending → World → Prop) (w0 : World) (X0 : XS) (p0 : Value) (p1 : ByteArray) : Prop :=
 rdV Tryz.prog X0 w0 (lnT 9 3 (.string p1)) fun x6_2 =>
 eC Tryz.prog R X0 w0 true 206 #[p0, x6_2] fun _ w_4 X_5 =>
 (rdW Tryz.prog X_5 w_4 (nilN p0) fun x10_6 =>
 rdV Tryz.prog X_5 w_4 (fld 308 0 0 1 x10_6) fun x11_7 =>
 rdV Tryz.prog X_5 w_4 (ld1 95 x11_7) fun x12_8 =>
 eV Tryz.prog R X_5 w_4 true (Builtin.append_ #[95, 9] 95 #[x12_8, (.string p1)]) fun x14_9 w_10 X_11 =>
 rdW Tryz.prog X_11 w_10 (nilN p0) fun x15_12 =>
 rdV Tryz.prog X_11 w_10 (fld 308 0 0 1 x15_12) fun x16_13 =>
 eU Tryz.prog R X_11 w_10 true (st1 95 1 x16_13 x14_9) fun _ w_14 X_15 =>
 fin R X_15 w_14 (Value.tuple #[]))
theorem ok_wire_Writer_Text {R : Ending → World → Prop} {w0 : World} {p0 : Value} {p1 : ByteArray} (h : vc_wire_Writer_Text R w0 (old w0) p0 p1) : Calls Tryz.prog 291 #[p0, (.string p1)] w0 R :=
  calls_of_vc (pl := pl_wire_Writer_Text) Tryz.func291 (by kernel_rfl) (by kernel_rfl) h
noncomputable def pl_datum_Put : Plan := ⟨26, [(3, (Tryz.prog.cellsOf 51))], [9, 12, 17, 23], [0, 1, 6, 13, 14, 20], [], []⟩
def vc_datum_Put (R : Ending → World → Prop) (w0 : World) (X0 : XS) (p0 : Value) (p1_0 : Int) (p1_1 : Nat) (p1_2 : ByteArray) : Prop :=
 ((jn (fun (y3_10 : Value) (w_11 : World) (X_12 : XS) =>
 chk (isA y3_10) (un (cellOf y3_10 0) fun u_15 =>
 eC Tryz.prog R X_12 w_11 true 206 #[p0, u_15] fun _ w_17 X_18 =>
 (chk (isA y3_10) (((jn (fun (w_33 : World) (X_34 : XS) =>
 fin R X_34 w_33 (Value.tuple #[])) fun k_35 =>
 rdV Tryz.prog X_18 w_17 (binS .eql 3 (.tmp 13) (.const (I 1)) u_15 (I 1)) fun x15_22 =>
 (condW x15_22
 (chk (isA y3_10) (un (cellOf y3_10 1) fun u_23 =>
 eC Tryz.prog R X_18 w_17 true 219 #[p0, u_23] fun _ w_25 X_26 =>
 (k_35 w_25 X_26)))
 (rdV Tryz.prog X_18 w_17 (binS .eql 3 (.tmp 13) (.const (I 2)) u_15 (I 2)) fun x21_28 =>
 (condW x21_28
 (chk (isA y3_10) (un (cellOf y3_10 2) fun u_29 =>
 eC Tryz.prog R X_18 w_17 true 291 #[p0, u_29] fun _ w_31 X_32 =>
 (k_35 w_31 X_32)))
 (k_35 w_17 X_18)))))))))) fun k_13 =>
 eC Tryz.prog R X0 w0 true 158 #[(.agg #[(I p1_0), (.float .f64 p1_1), (.string p1_2)])] fun x5_4 w_5 X_6 =>
 rdV Tryz.prog X_6 w_5 (Op.unary UnOp.not x5_4) fun x6_7 =>
 (condW x6_7
 (rdV Tryz.prog X_6 w_5 (bld 51 #[(I 0), (.float .f64 0), (.string ⟨#[]⟩)] #[]) fun x7_8 =>
 un (Value.agg (Value.cells x7_8)) fun u_9 =>
 chk (List.length (Array.toList (Value.cells x7_8)) == 3) (chk (List.all (Array.toList (Value.cells x7_8)) one) (k_13 u_9 w_5 X_6)))
 ((k_13 (.agg #[(I p1_0), (.float .f64 p1_1), (.string p1_2)]) w_5 X_6)))))
theorem ok_datum_Put {R : Ending → World → Prop} {w0 : World} {p0 : Value} {p1_0 : Int} {p1_1 : Nat} {p1_2 : ByteArray} (h : vc_datum_Put R w0 (old w0) p0 p1_0 p1_1 p1_2) : Calls Tryz.prog 296 #[p0, (.agg #[(I p1_0), (.float .f64 p1_1), (.string p1_2)])] w0 R :=
  calls_of_vc (pl := pl_datum_Put) Tryz.func296 (by kernel_rfl) (by kernel_rfl) h
noncomputable def pl_recs_zeroState : Plan := ⟨51, [(1, (Tryz.prog.cellsOf 46))], [3, 4, 8, 9, 14, 15, 21, 22, 28, 34, 40, 46], [0, 2], [7, 10, 11, 13, 16, 17, 18, 20, 23, 24, 25, 27, 29, 30, 31, 33, 35, 36, 37, 39, 41, 42, 43, 45, 47, 48, 49], []⟩
def vc_recs_zeroState (R : Ending → World → Prop) (w0 : World) (X0 : XS) (p0_0 p0_1 : Int) (p0_2 p0_3 : Nat) (p0_4 p0_5 p0_6 p0_7 p0_8 p0_9 : Int) (p0_10 p0_11 : Value) : Prop :=
 (rdV Tryz.prog X0 w0 (binS .eql 3 (.tmp 5) (.const (I 0)) (I p0_0) (I 0)) fun x6_3 =>
 un (gSel x6_3 true (I p0_1)) fun u_4 =>
 grdW Tryz.prog X0 w0 x6_3 true (vS (binS .eql 3 (.tmp 10) (.const (I 0)) u_4 (I 0))) fun x11_5 =>
 rdW Tryz.prog X0 w0 (pickN x6_3 x11_5 (B false)) fun x12_6 =>
 un (gSel x12_6 true (.float .f64 p0_2)) fun u_7 =>
 jn (fun (x17_8 : Value) (w_9 : World) (X_10 : XS) =>
 grdW Tryz.prog X_10 w_9 x12_6 true (vS (binS .eql 196 (.tmp 17) (.const (Value.int IntKind.u64 0)) x17_8 (Value.int IntKind.u64 0))) fun x18_12 =>
 rdW Tryz.prog X_10 w_9 (pickN x12_6 x18_12 (B false)) fun x19_13 =>
 un (gSel x19_13 true (.float .f64 p0_3)) fun u_14 =>
 jn (fun (x24_15 : Value) (w_16 : World) (X_17 : XS) =>
 grdW Tryz.prog X_17 w_16 x19_13 true (vS (binS .eql 196 (.tmp 24) (.const (Value.int IntKind.u64 0)) x24_15 (Value.int IntKind.u64 0))) fun x25_19 =>
 rdW Tryz.prog X_17 w_16 (pickN x19_13 x25_19 (B false)) fun x26_20 =>
 un (gSel x26_20 true (.agg #[(I p0_4), (I p0_5), (I p0_6)])) fun u_21 =>
 grdW Tryz.prog X_17 w_16 x26_20 true (vS (bld 35 #[(I 0), (I 0), (I 0)] #[])) fun x30_22 =>
 grdW Tryz.prog X_17 w_16 x26_20 true (vS (binS .eql 35 (.tmp 29) (.tmp 30) u_21 x30_22)) fun x31_23 =>
 rdW Tryz.prog X_17 w_16 (pickN x26_20 x31_23 (B false)) fun x32_24 =>
 un (gSel x32_24 true (.agg #[(I p0_7), (I p0_8), (I p0_9)])) fun u_25 =>
 grdW Tryz.prog X_17 w_16 x32_24 true (vS (bld 35 #[(I 0), (I 0), (I 0)] #[])) fun x36_26 =>
 grdW Tryz.prog X_17 w_16 x32_24 true (vS (binS .eql 35 (.tmp 35) (.tmp 36) u_25 x36_26)) fun x37_27 =>
 rdW Tryz.prog X_17 w_16 (pickN x32_24 x37_27 (B false)) fun x38_28 =>
 un (gSel x38_28 true p0_10) fun u_29 =>
 grdW Tryz.prog X_17 w_16 x38_28 true (vS (lnS 43 3 u_29)) fun x42_30 =>
 grdW Tryz.prog X_17 w_16 x38_28 true (vS (binS .eql 3 (.tmp 42) (.const (I 0)) x42_30 (I 0))) fun x43_31 =>
 rdW Tryz.prog X_17 w_16 (pickN x38_28 x43_31 (B false)) fun x44_32 =>
 un (gSel x44_32 true p0_11) fun u_33 =>
 grdW Tryz.prog X_17 w_16 x44_32 true (vS (lnS 44 3 u_33)) fun x48_34 =>
 grdW Tryz.prog X_17 w_16 x44_32 true (vS (binS .eql 3 (.tmp 48) (.const (I 0)) x48_34 (I 0))) fun x49_35 =>
 rdW Tryz.prog X_17 w_16 (pickN x44_32 x49_35 (B false)) fun x50_36 =>
 (fin R X_17 w_16 x50_36)) fun k_18 =>
 (gE x19_13 true (eC Tryz.prog R X_10 w_9 true 111 #[u_14] k_18) (k_18 undef w_9 X_10))) fun k_11 =>
 (gE x12_6 true (eC Tryz.prog R X0 w0 true 111 #[u_7] k_11) (k_11 undef w0 X0)))
theorem ok_recs_zeroState {R : Ending → World → Prop} {w0 : World} {p0_0 p0_1 : Int} {p0_2 p0_3 : Nat} {p0_4 p0_5 p0_6 p0_7 p0_8 p0_9 : Int} {p0_10 p0_11 : Value} (h : vc_recs_zeroState R w0 (old w0) p0_0 p0_1 p0_2 p0_3 p0_4 p0_5 p0_6 p0_7 p0_8 p0_9 p0_10 p0_11) : Calls Tryz.prog 298 #[(.agg #[(I p0_0), (I p0_1), (.float .f64 p0_2), (.float .f64 p0_3), (I p0_4), (I p0_5), (I p0_6), (I p0_7), (I p0_8), (I p0_9), p0_10, p0_11])] w0 R :=
  calls_of_vc (pl := pl_recs_zeroState) Tryz.func298 (by kernel_rfl) (by kernel_rfl) h
noncomputable def pl_recs_decided : Plan := ⟨11, [(3, (Tryz.prog.cellsOf 35))], [], [0, 1, 4, 5], [], []⟩
def vc_recs_decided (R : Ending → World → Prop) (w0 : World) (X0 : XS) (p0 : Bool) (p1_0 p1_1 p1_2 : Int) : Prop :=
 ((condW (B p0)
 (eC Tryz.prog R X0 w0 true 302 #[(.agg #[(I p1_0), (I p1_1), (I p1_2)])] fun x7_5 w_6 X_7 =>
 (fin R X_7 w_6 x7_5))
 ((rdV Tryz.prog X0 w0 (bld 35 #[(I 0), (I 0), (I 0)] #[]) fun x9_9 =>
 rdV Tryz.prog X0 w0 (binS .eql 35 (.tmp 8) (.tmp 9) (.agg #[(I p1_0), (I p1_1), (I p1_2)]) x9_9) fun x10_10 =>
 (fin R X0 w0 x10_10)))))
theorem ok_recs_decided {R : Ending → World → Prop} {w0 : World} {p0 : Bool} {p1_0 p1_1 p1_2 : Int} (h : vc_recs_decided R w0 (old w0) p0 p1_0 p1_1 p1_2) : Calls Tryz.prog 299 #[(B p0), (.agg #[(I p1_0), (I p1_1), (I p1_2)])] w0 R :=
  calls_of_vc (pl := pl_recs_decided) Tryz.func299 (by kernel_rfl) (by kernel_rfl) h
noncomputable def pl_place_Point : Plan := ⟨13, [], [], [0, 2, 3, 4, 8], [], []⟩
def vc_place_Point (R : Ending → World → Prop) (w0 : World) (X0 : XS) (p0 : Nat) : Prop :=
 (eC Tryz.prog R X0 w0 true 348 #[(.float .f64 p0)] fun x6_5 w_6 X_7 =>
 rdV Tryz.prog X_7 w_6 (binS .eql 3 (.tmp 6) (.const (I 4)) x6_5 (I 4)) fun x7_8 =>
 (condW x7_8
 ((fin R X_7 w_6 (Value.tuple #[(.float .f64 0), (I 0)])))
 (eC Tryz.prog R X_7 w_6 true 314 #[(.float .f64 p0)] fun x10_11 w_12 X_13 =>
 rdV Tryz.prog X_13 w_12 (Op.unary UnOp.not x10_11) fun x11_14 =>
 (condW x11_14
 ((fin R X_13 w_12 (Value.tuple #[(.float .f64 0), (I 1)])))
 ((((fin R X_13 w_12 (Value.tuple #[(.float .f64 p0), (I 0)])))))))))
theorem ok_place_Point {R : Ending → World → Prop} {w0 : World} {p0 : Nat} (h : vc_place_Point R w0 (old w0) p0) : Calls Tryz.prog 300 #[(.float .f64 p0)] w0 R :=
  calls_of_vc (pl := pl_place_Point) Tryz.func300 (by kernel_rfl) (by kernel_rfl) h
noncomputable def pl_recs_ranges : Plan := ⟨9, [], [], [0, 2], [5, 6, 7], []⟩
def vc_recs_ranges (R : Ending → World → Prop) (w0 : World) (X0 : XS) (p0 : Int) : Prop :=
 (rdV Tryz.prog X0 w0 (binOp .geq 3 (I p0) (I 1)) fun x4_3 =>
 un (gSel x4_3 true (I p0)) fun u_4 =>
 grdW Tryz.prog X0 w0 x4_3 true (vS (binOp .leq 3 u_4 (I 12))) fun x7_5 =>
 rdW Tryz.prog X0 w0 (pickN x4_3 x7_5 (B false)) fun x8_6 =>
 (fin R X0 w0 x8_6))
theorem ok_recs_ranges {R : Ending → World → Prop} {w0 : World} {p0 : Int} (h : vc_recs_ranges R w0 (old w0) p0) : Calls Tryz.prog 301 #[(I p0)] w0 R :=
  calls_of_vc (pl := pl_recs_ranges) Tryz.func301 (by kernel_rfl) (by kernel_rfl) h
noncomputable def pl_recs_moment : Plan := ⟨10, [(1, (Tryz.prog.cellsOf 35))], [], [0, 2], [5, 6, 7, 8], []⟩
def vc_recs_moment (R : Ending → World → Prop) (w0 : World) (X0 : XS) (p0_0 p0_1 p0_2 : Int) : Prop :=
 (eC Tryz.prog R X0 w0 true 165 #[(.agg #[(I p0_0), (I p0_1), (I p0_2)])] fun x4_3 w_4 X_5 =>
 un (gSel x4_3 true (.agg #[(I p0_0), (I p0_1), (I p0_2)])) fun u_6 =>
 grdW Tryz.prog X_5 w_4 x4_3 true (vS (bld 35 #[(I 0), (I 0), (I 0)] #[])) fun x7_7 =>
 grdW Tryz.prog X_5 w_4 x4_3 true (vS (binS .neq 35 (.tmp 6) (.tmp 7) u_6 x7_7)) fun x8_8 =>
 rdW Tryz.prog X_5 w_4 (pickN x4_3 x8_8 (B false)) fun x9_9 =>
 (fin R X_5 w_4 x9_9))
theorem ok_recs_moment {R : Ending → World → Prop} {w0 : World} {p0_0 p0_1 p0_2 : Int} (h : vc_recs_moment R w0 (old w0) p0_0 p0_1 p0_2) : Calls Tryz.prog 302 #[(.agg #[(I p0_0), (I p0_1), (I p0_2)])] w0 R :=
  calls_of_vc (pl := pl_recs_moment) Tryz.func302 (by kernel_rfl) (by kernel_rfl) h
noncomputable def pl_recs_pairs : Plan := ⟨44, [(4, (Tryz.prog.cellsOf 74))], [12, 26, 32, 38, 39], [0, 2, 3, 5, 6, 7, 8, 42], [16, 17, 18, 19, 20, 21, 22, 23, 24, 25, 27, 28, 29, 31, 33, 34, 35, 37, 40, 41], [7]⟩
def vc_recs_pairs (R : Ending → World → Prop) (w0 : World) (X0 : XS) (p0 : Value) : Prop :=
 (rdV Tryz.prog X0 w0 (lnS 54 3 p0) fun x6_4 =>
 (lp1 X0 w0 (I 0) 7 fun J_6 n_7 v_11 w_9 X_10 =>
 rdV Tryz.prog X_10 w_9 (binOp .lss 3 v_11 x6_4) fun x8_13 =>
 (condW x8_13
 ((rdV Tryz.prog X_10 w_9 (ixS 54 4 p0 v_11) fun x10_18 =>
 rdV Tryz.prog X_10 w_9 (ldA 74 4 x10_18) fun x11_19 =>
 un (Value.agg (Value.cells x11_19)) fun u_20 =>
 chk (List.length (Array.toList (Value.cells x11_19)) == 4) (chk (List.all (Array.toList (Value.cells x11_19)) one) ((chk (isA u_20) (un (cellOf u_20 0) fun u_22 =>
 eC Tryz.prog R X_10 w_9 true 312 #[u_22] fun x14_23 w_24 X_25 =>
 rdV Tryz.prog X_25 w_24 (Op.unary UnOp.not x14_23) fun x15_26 =>
 un (gSel x15_26 false v_11) fun u_27 =>
 grdW Tryz.prog X_25 w_24 x15_26 false (vS (binOp .gtr 3 u_27 (I 0))) fun x18_28 =>
 un (gSel x15_26 false x18_28) fun u_29 =>
 un (gSel u_29 true p0) fun u_30 =>
 un (gSel u_29 true v_11) fun u_31 =>
 grdW Tryz.prog X_25 w_24 u_29 true (vS (binOp .sub 3 u_31 (I 1))) fun x22_32 =>
 grdW Tryz.prog X_25 w_24 u_29 true (vS (ixS 54 4 u_30 x22_32)) fun x23_33 =>
 grdW Tryz.prog X_25 w_24 u_29 true (vS (fld 74 0 0 1 x23_33)) fun x24_34 =>
 grdW Tryz.prog X_25 w_24 u_29 true (vS (ld1 9 x24_34)) fun x25_35 =>
 un (gSel u_29 true u_22) fun u_36 =>
 grdW Tryz.prog X_25 w_24 u_29 true (vS (binOp .geq 9 x25_35 u_36)) fun x28_37 =>
 grdW Tryz.prog X_25 w_24 x15_26 false (pickN u_29 x28_37 (B false)) fun x29_38 =>
 rdW Tryz.prog X_25 w_24 (pickN x15_26 (B true) x29_38) fun x30_39 =>
 un (subOf u_20 1 3) fun u_40 =>
 un (gSel x30_39 false u_40) fun u_41 =>
 jn (fun (x34_42 : Value) (w_43 : World) (X_44 : XS) =>
 grdW Tryz.prog X_44 w_43 x30_39 false (vS (Op.unary UnOp.not x34_42)) fun x35_46 =>
 rdW Tryz.prog X_44 w_43 (pickN x30_39 (B true) x35_46) fun x36_47 =>
 un (cellOf u_20 1) fun u_48 =>
 un (gSel x36_47 false u_48) fun u_49 =>
 grdW Tryz.prog X_44 w_43 x36_47 false (vS (binS .eql 3 (.tmp 40) (.const (I 0)) u_49 (I 0))) fun x41_50 =>
 rdW Tryz.prog X_44 w_43 (pickN x36_47 (B true) x41_50) fun x42_51 =>
 (condW x42_51
 (fin R X_44 w_43 (B false))
 (((rdV Tryz.prog X_44 w_43 (binOp .add 3 v_11 (I 1)) fun x43_53 =>
 nx1 J_6 n_7 x43_53 w_43 X_44))))) fun k_45 =>
 (gE x30_39 false (eC Tryz.prog R X_25 w_24 true 158 #[u_41] k_45) (k_45 undef w_24 X_25))))))))
 (fin R X_10 w_9 (B true)))))
theorem ok_recs_pairs {R : Ending → World → Prop} {w0 : World} {p0 : Value} (h : vc_recs_pairs R w0 (old w0) p0) : Calls Tryz.prog 303 #[p0] w0 R :=
  calls_of_vc (pl := pl_recs_pairs) Tryz.func303 (by kernel_rfl) (by kernel_rfl) h
noncomputable def pl_num_Canon : Plan := ⟨8, [], [], [0, 2, 5], [], []⟩
def vc_num_Canon (R : Ending → World → Prop) (w0 : World) (X0 : XS) (p0 : Nat) : Prop :=
 (rdV Tryz.prog X0 w0 (binS .neq 40 (.tmp 3) (.tmp 4) (.float .f64 p0) (.float .f64 p0)) fun x5_4 =>
 (condW x5_4
 (eC Tryz.prog R X0 w0 true 346 #[(Value.int IntKind.u64 9221120237041090560)] fun x6_6 w_7 X_8 =>
 (fin R X_8 w_7 x6_6))
 (fin R X0 w0 (.float .f64 p0))))
theorem ok_num_Canon {R : Ending → World → Prop} {w0 : World} {p0 : Nat} (h : vc_num_Canon R w0 (old w0) p0) : Calls Tryz.prog 304 #[(.float .f64 p0)] w0 R :=
  calls_of_vc (pl := pl_num_Canon) Tryz.func304 (by kernel_rfl) (by kernel_rfl) h
noncomputable def pl_datum_Key : Plan := ⟨11, [], [], [0, 2], [6, 7, 8, 9], []⟩
def vc_datum_Key (R : Ending → World → Prop) (w0 : World) (X0 : XS) (p0 : ByteArray) : Prop :=
 (rdV Tryz.prog X0 w0 (lnT 9 3 (.string p0)) fun x4_3 =>
 rdV Tryz.prog X0 w0 (binOp .geq 3 x4_3 (I 1)) fun x5_4 =>
 un (gSel x5_4 true (.string p0)) fun u_5 =>
 grdW Tryz.prog X0 w0 x5_4 true (vS (lnT 9 3 u_5)) fun x8_6 =>
 grdW Tryz.prog X0 w0 x5_4 true (vS (binOp .leq 3 x8_6 (I 24))) fun x9_7 =>
 rdW Tryz.prog X0 w0 (pickN x5_4 x9_7 (B false)) fun x10_8 =>
 (fin R X0 w0 x10_8))
theorem ok_datum_Key {R : Ending → World → Prop} {w0 : World} {p0 : ByteArray} (h : vc_datum_Key R w0 (old w0) p0) : Calls Tryz.prog 312 #[(.string p0)] w0 R :=
  calls_of_vc (pl := pl_datum_Key) Tryz.func312 (by kernel_rfl) (by kernel_rfl) h
noncomputable def pl_place_point : Plan := ⟨10, [], [], [0, 2], [6, 7, 8], []⟩
def vc_place_point (R : Ending → World → Prop) (w0 : World) (X0 : XS) (p0 : Nat) : Prop :=
 (eC Tryz.prog R X0 w0 true 348 #[(.float .f64 p0)] fun x4_3 w_4 X_5 =>
 rdV Tryz.prog X_5 w_4 (binOp .geq 3 x4_3 (I 5)) fun x5_6 =>
 un (gSel x5_6 true (.float .f64 p0)) fun u_7 =>
 grdW Tryz.prog X_5 w_4 x5_6 true (vS (binOp .leq 40 u_7 (.float .f64 4607182418800017408))) fun x8_8 =>
 rdW Tryz.prog X_5 w_4 (pickN x5_6 x8_8 (B false)) fun x9_9 =>
 (fin R X_5 w_4 x9_9))
theorem ok_place_point {R : Ending → World → Prop} {w0 : World} {p0 : Nat} (h : vc_place_point R w0 (old w0) p0) : Calls Tryz.prog 314 #[(.float .f64 p0)] w0 R :=
  calls_of_vc (pl := pl_place_point) Tryz.func314 (by kernel_rfl) (by kernel_rfl) h
noncomputable def pl_mvcc_New : Plan := ⟨5, [], [], [0], [], []⟩
def vc_mvcc_New (R : Ending → World → Prop) (w0 : World) (X0 : XS) : Prop :=
 (eV Tryz.prog R X0 w0 true (Instr.makeMap 379 none) fun x1_3 w_4 X_5 =>
 eV Tryz.prog R X_5 w_4 true (Instr.makeMap 380 none) fun x2_6 w_7 X_8 =>
 rdV Tryz.prog X_8 w_7 (bld 382 #[x1_3, x2_6, (I 0), (I 0), (I 0)] #[(0, x1_3), (1, x2_6)]) fun x3_9 =>
 eV Tryz.prog R X_8 w_7 true (Instr.box 382 x3_9) fun x4_10 w_11 X_12 =>
 (fin R X_12 w_11 x4_10))
theorem ok_mvcc_New {R : Ending → World → Prop} {w0 : World} (h : vc_mvcc_New R w0 (old w0)) : Calls Tryz.prog 315 #[] w0 R :=
  calls_of_vc (pl := pl_mvcc_New) Tryz.func315 (by kernel_rfl) (by kernel_rfl) h
noncomputable def pl_mvcc_history : Plan := ⟨52, [(2, (Tryz.prog.cellsOf 288)), (5, (Tryz.prog.cellsOf 35)), (7, (Tryz.prog.cellsOf 337))], [8, 13, 19, 25, 32, 37, 44, 49], [0, 1, 4, 23, 26, 27, 28, 29, 48], [12, 14, 15, 16, 18, 20, 21, 22, 36, 38, 39, 40, 41, 43, 45, 46, 47], [5, 28]⟩
def vc_mvcc_history (R : Ending → World → Prop) (w0 : World) (X0 : XS) (p0_0 : ByteArray) (p0_1 : Value) (p1 : ByteArray) : Prop :=
 (eC Tryz.prog R X0 w0 true 312 #[(.string p0_0)] fun x10_4 w_5 X_6 =>
 rdV Tryz.prog X_6 w_5 (Op.unary UnOp.not x10_4) fun x11_7 =>
 un (gSel x11_7 false (.string p0_0)) fun u_8 =>
 un (gSel x11_7 false (.string p1)) fun u_9 =>
 grdW Tryz.prog X_6 w_5 x11_7 false (vS (binOp .leq 9 u_8 u_9)) fun x16_10 =>
 rdW Tryz.prog X_6 w_5 (pickN x11_7 (B true) x16_10) fun x17_11 =>
 un (gSel x17_11 false p0_1) fun u_12 =>
 grdW Tryz.prog X_6 w_5 x17_11 false (vS (lnS 286 3 u_12)) fun x21_13 =>
 grdW Tryz.prog X_6 w_5 x17_11 false (vS (binS .eql 3 (.tmp 21) (.const (I 0)) x21_13 (I 0))) fun x22_14 =>
 rdW Tryz.prog X_6 w_5 (pickN x17_11 (B true) x22_14) fun x23_15 =>
 (condW x23_15
 (fin R X_6 w_5 (B false))
 ((rdV Tryz.prog X_6 w_5 (bld 35 #[(I 0), (I 0), (I 0)] #[]) fun x24_18 =>
 un (Value.agg (Value.cells x24_18)) fun u_19 =>
 chk (List.length (Array.toList (Value.cells x24_18)) == 3) (chk (List.all (Array.toList (Value.cells x24_18)) one) ((rdV Tryz.prog X_6 w_5 (lnS 286 3 p0_1) fun x27_22 =>
 (lp2 X_6 w_5 (I 0) u_19 28 5 fun J_24 n_25 v_29 v_30 w_27 X_28 =>
 rdV Tryz.prog X_28 w_27 (binOp .lss 3 v_29 x27_22) fun x29_32 =>
 (condW x29_32
 ((rdV Tryz.prog X_28 w_27 (ixS 286 6 p0_1 v_29) fun x30_37 =>
 rdV Tryz.prog X_28 w_27 (ldA 337 6 x30_37) fun x31_38 =>
 un (Value.agg (Value.cells x31_38)) fun u_39 =>
 chk (List.length (Array.toList (Value.cells x31_38)) == 6) (chk (List.all (Array.toList (Value.cells x31_38)) one) ((chk (isA u_39) (un (subOf u_39 0 3) fun u_42 =>
 eC Tryz.prog R X_28 w_27 true 165 #[u_42] fun x34_43 w_44 X_45 =>
 rdV Tryz.prog X_45 w_44 (Op.unary UnOp.not x34_43) fun x35_46 =>
 un (gSel x35_46 false u_42) fun u_47 =>
 chk (isA v_30) (un (subOf v_30 0 3) fun u_48 =>
 un (gSel x35_46 false u_48) fun u_49 =>
 jn (fun (x40_50 : Value) (w_51 : World) (X_52 : XS) =>
 grdW Tryz.prog X_52 w_51 x35_46 false (vS (binOp .leq 3 x40_50 (I 0))) fun x41_54 =>
 rdW Tryz.prog X_52 w_51 (pickN x35_46 (B true) x41_54) fun x42_55 =>
 un (subOf u_39 3 3) fun u_56 =>
 un (gSel x42_55 false u_56) fun u_57 =>
 jn (fun (x46_58 : Value) (w_59 : World) (X_60 : XS) =>
 grdW Tryz.prog X_60 w_59 x42_55 false (vS (Op.unary UnOp.not x46_58)) fun x47_62 =>
 rdW Tryz.prog X_60 w_59 (pickN x42_55 (B true) x47_62) fun x48_63 =>
 (condW x48_63
 (fin R X_60 w_59 (B false))
 ((chk (isA u_39) (chk (isA v_30) (un (Value.agg (Value.cells u_42)) fun u_65 =>
 chk (List.length (Array.toList (Value.cells u_42)) == 3) (chk (List.all (Array.toList (Value.cells u_42)) one) (((rdV Tryz.prog X_60 w_59 (binOp .add 3 v_29 (I 1)) fun x51_66 =>
 nx2 J_24 n_25 x51_66 u_65 w_59 X_60)))))))))) fun k_61 =>
 (gE x42_55 false (eC Tryz.prog R X_52 w_51 true 158 #[u_57] k_61) (k_61 undef w_51 X_52))) fun k_53 =>
 (gE x35_46 false (eC Tryz.prog R X_45 w_44 true 53 #[u_47, u_49] k_53) (k_53 undef w_44 X_45)))))))))
 (fin R X_28 w_27 (B true)))))))))))
theorem ok_mvcc_history {R : Ending → World → Prop} {w0 : World} {p0_0 : ByteArray} {p0_1 : Value} {p1 : ByteArray} (h : vc_mvcc_history R w0 (old w0) p0_0 p0_1 p1) : Calls Tryz.prog 316 #[(.agg #[(.string p0_0), p0_1]), (.string p1)] w0 R :=
  calls_of_vc (pl := pl_mvcc_history) Tryz.func316 (by kernel_rfl) (by kernel_rfl) h
noncomputable def pl_slices_Clone_sl_api_Version_api_Version : Plan := ⟨8, [], [], [0, 2, 4], [], []⟩
def vc_slices_Clone_sl_api_Version_api_Version (R : Ending → World → Prop) (w0 : World) (X0 : XS) (p0 : Value) : Prop :=
 (rdV Tryz.prog X0 w0 (binS .eql 286 (.tmp 3) (.const (.slice none 0 0)) p0 (.slice none 0 0)) fun x4_4 =>
 (condW x4_4
 (fin R X0 w0 (.slice none 0 0))
 (eV Tryz.prog R X0 w0 true (bsS 286 337 6 0 #[]) fun x5_7 w_8 X_9 =>
 eV Tryz.prog R X_9 w_8 true (apS 286 337 6 56 286 x5_7 p0) fun x7_10 w_11 X_12 =>
 (fin R X_12 w_11 x7_10))))
theorem ok_slices_Clone_sl_api_Version_api_Version {R : Ending → World → Prop} {w0 : World} {p0 : Value} (h : vc_slices_Clone_sl_api_Version_api_Version R w0 (old w0) p0) : Calls Tryz.prog 317 #[p0] w0 R :=
  calls_of_vc (pl := pl_slices_Clone_sl_api_Version_api_Version) Tryz.func317 (by kernel_rfl) (by kernel_rfl) h
noncomputable def pl_mvcc_Store_locked : Plan := ⟨50, [(3, (Tryz.prog.cellsOf 229)), (6, (Tryz.prog.cellsOf 229)), (8, (Tryz.prog.cellsOf 53))], [20, 28, 32, 34, 39], [0, 1, 4, 10, 15, 17, 21, 22, 23, 24, 37, 40, 41, 42, 43, 48], [31, 33, 35, 36], [23, 42]⟩
def vc_mvcc_Store_locked (R : Ending → World → Prop) (w0 : World) (X0 : XS) (p0 : Value) (_p1_0 _p1_1 _p1_2 _p1_3 _p1_4 _p1_5 : Int) (p1_6 p1_7 : Value) : Prop :=
 (rdW Tryz.prog X0 w0 (nilN p0) fun x12_4 =>
 rdV Tryz.prog X0 w0 (fld 382 1 1 1 x12_4) fun x13_5 =>
 rdV Tryz.prog X0 w0 (ld1 380 x13_5) fun x14_6 =>
 eV Tryz.prog R X0 w0 true (Instr.range 380 x14_6) fun x15_7 w_8 X_9 =>
 (lp2 X_9 w_8 undef undef 42 23 fun J_11 n_12 _ _ w_14 X_15 =>
 eV Tryz.prog R X_15 w_14 true (Instr.next x15_7 false 0) fun x16_19 w_20 X_21 =>
 rdV Tryz.prog X_21 w_20 (Instr.extract x16_19 0) fun x17_22 =>
 (condW x17_22
 ((eV Tryz.prog R X_21 w_20 true (Instr.entry x15_7) fun x18_26 w_27 X_28 =>
 rdV Tryz.prog X_28 w_27 (Instr.extract x18_26 1) fun x19_29 =>
 un (Value.agg (Value.cells x19_29)) fun u_30 =>
 chk (List.length (Array.toList (Value.cells x19_29)) == 8) (chk (List.all (Array.toList (Value.cells x19_29)) one) ((rdV Tryz.prog X_28 w_27 (lnS 23 3 p1_7) fun x22_33 =>
 (lp1 X_28 w_27 (I 0) 23 fun J_35 n_36 v_40 w_38 X_39 =>
 rdV Tryz.prog X_39 w_38 (binOp .lss 3 v_40 x22_33) fun x24_42 =>
 (condW x24_42
 ((rdV Tryz.prog X_39 w_38 (ixS 23 4 p1_7 v_40) fun x25_47 =>
 rdV Tryz.prog X_39 w_38 (ldA 53 4 x25_47) fun x26_48 =>
 un (Value.agg (Value.cells x26_48)) fun u_49 =>
 chk (List.length (Array.toList (Value.cells x26_48)) == 4) (chk (List.all (Array.toList (Value.cells x26_48)) one) ((chk (isA u_30) (chk (isA u_49) (un (subOf u_30 0 8) fun u_51 =>
 un (cellOf u_49 0) fun u_52 =>
 eC Tryz.prog R X_39 w_38 true 350 #[u_51, u_52] fun x30_53 w_54 X_55 =>
 un (cellOf u_30 6) fun u_56 =>
 un (gSel x30_53 false u_56) fun u_57 =>
 un (gSel x30_53 false u_52) fun u_58 =>
 jn (fun (x36_59 : Value) (w_60 : World) (X_61 : XS) =>
 rdW Tryz.prog X_61 w_60 (pickN x30_53 (B true) x36_59) fun x37_63 =>
 (condW x37_63
 (fin R X_61 w_60 (B true))
 (((rdV Tryz.prog X_61 w_60 (binOp .add 3 v_40 (I 1)) fun x38_65 =>
 nx1 J_35 n_36 x38_65 w_60 X_61))))) fun k_62 =>
 (gE x30_53 false (eC Tryz.prog R X_55 w_54 true 351 #[u_57, u_58] k_62) (k_62 undef w_54 X_55)))))))))
 (((rdV Tryz.prog X_39 w_38 (lnS 36 3 p1_6) fun x41_67 =>
 (lp1 X_39 w_38 (I 0) 42 fun J_69 n_70 v_74 w_72 X_73 =>
 rdV Tryz.prog X_73 w_72 (binOp .lss 3 v_74 x41_67) fun x43_76 =>
 (condW x43_76
 ((rdV Tryz.prog X_73 w_72 (ixS 36 1 p1_6 v_74) fun x44_81 =>
 rdV Tryz.prog X_73 w_72 (ld1 9 x44_81) fun x45_82 =>
 (chk (isA u_30) (un (subOf u_30 0 8) fun u_84 =>
 eC Tryz.prog R X_73 w_72 true 350 #[u_84, x45_82] fun x48_85 w_86 X_87 =>
 (condW x48_85
 (fin R X_87 w_86 (B true))
 (((rdV Tryz.prog X_87 w_86 (binOp .add 3 v_74 (I 1)) fun x49_89 =>
 nx1 J_69 n_70 x49_89 w_86 X_87))))))))
 (nx2 J_11 n_12 v_74 v_40 w_72 X_73)))))))))))))
 (fin R X_21 w_20 (B false)))))
theorem ok_mvcc_Store_locked {R : Ending → World → Prop} {w0 : World} {p0 : Value} {p1_0 p1_1 p1_2 p1_3 p1_4 p1_5 : Int} {p1_6 p1_7 : Value} (h : vc_mvcc_Store_locked R w0 (old w0) p0 p1_0 p1_1 p1_2 p1_3 p1_4 p1_5 p1_6 p1_7) : Calls Tryz.prog 318 #[p0, (.agg #[(I p1_0), (I p1_1), (I p1_2), (I p1_3), (I p1_4), (I p1_5), p1_6, p1_7])] w0 R :=
  calls_of_vc (pl := pl_mvcc_Store_locked) Tryz.func318 (by kernel_rfl) (by kernel_rfl) h
noncomputable def pl_mvcc_Store_old : Plan := ⟨24, [(3, (Tryz.prog.cellsOf 229)), (6, (Tryz.prog.cellsOf 53))], [7, 15, 19], [0, 1, 4, 8, 9, 10, 11, 22], [], [10]⟩
def vc_mvcc_Store_old (R : Ending → World → Prop) (w0 : World) (X0 : XS) (p0 : Value) (_p1_0 _p1_1 _p1_2 p1_3 p1_4 p1_5 : Int) (_p1_6 p1_7 : Value) : Prop :=
 (rdV Tryz.prog X0 w0 (lnS 23 3 p1_7) fun x9_4 =>
 (lp1 X0 w0 (I 0) 10 fun J_6 n_7 v_11 w_9 X_10 =>
 rdV Tryz.prog X_10 w_9 (binOp .lss 3 v_11 x9_4) fun x11_13 =>
 (condW x11_13
 ((rdV Tryz.prog X_10 w_9 (ixS 23 4 p1_7 v_11) fun x12_18 =>
 rdV Tryz.prog X_10 w_9 (ldA 53 4 x12_18) fun x13_19 =>
 un (Value.agg (Value.cells x13_19)) fun u_20 =>
 chk (List.length (Array.toList (Value.cells x13_19)) == 4) (chk (List.all (Array.toList (Value.cells x13_19)) one) ((chk (isA u_20) (un (cellOf u_20 0) fun u_22 =>
 eC Tryz.prog R X_10 w_9 false 352 #[p0, u_22] fun x17_23 w_24 X_25 =>
 rdV Tryz.prog X_25 w_24 (fdV 266 2 4 3 x17_23) fun x18_26 =>
 eC Tryz.prog R X_25 w_24 true 53 #[x18_26, (.agg #[(I p1_3), (I p1_4), (I p1_5)])] fun x21_27 w_28 X_29 =>
 rdV Tryz.prog X_29 w_28 (binOp .geq 3 x21_27 (I 0)) fun x22_30 =>
 (condW x22_30
 (fin R X_29 w_28 (B true))
 (((rdV Tryz.prog X_29 w_28 (binOp .add 3 v_11 (I 1)) fun x23_32 =>
 nx1 J_6 n_7 x23_32 w_28 X_29))))))))))
 (fin R X_10 w_9 (B false)))))
theorem ok_mvcc_Store_old {R : Ending → World → Prop} {w0 : World} {p0 : Value} {p1_0 p1_1 p1_2 p1_3 p1_4 p1_5 : Int} {p1_6 p1_7 : Value} (h : vc_mvcc_Store_old R w0 (old w0) p0 p1_0 p1_1 p1_2 p1_3 p1_4 p1_5 p1_6 p1_7) : Calls Tryz.prog 319 #[p0, (.agg #[(I p1_0), (I p1_1), (I p1_2), (I p1_3), (I p1_4), (I p1_5), p1_6, p1_7])] w0 R :=
  calls_of_vc (pl := pl_mvcc_Store_old) Tryz.func319 (by kernel_rfl) (by kernel_rfl) h
noncomputable def pl_mvcc_clone : Plan := ⟨12, [(1, (Tryz.prog.cellsOf 229)), (2, (Tryz.prog.cellsOf 229))], [3, 6, 7, 10], [0], [], []⟩
def vc_mvcc_clone (R : Ending → World → Prop) (w0 : World) (X0 : XS) (p0_0 p0_1 p0_2 p0_3 p0_4 p0_5 : Int) (p0_6 p0_7 : Value) : Prop :=
 (eC Tryz.prog R X0 w0 true 353 #[p0_6] fun x5_3 w_4 X_5 =>
 chk (one x5_3) ((eC Tryz.prog R X_5 w_4 true 60 #[p0_7] fun x9_7 w_8 X_9 =>
 chk (one x9_7) ((chk (List.all [(I p0_0), (I p0_1), (I p0_2), (I p0_3), (I p0_4), (I p0_5), x5_3, x9_7] one) ((fin R X_9 w_8 (.agg #[(I p0_0), (I p0_1), (I p0_2), (I p0_3), (I p0_4), (I p0_5), x5_3, x9_7]))))))))
theorem ok_mvcc_clone {R : Ending → World → Prop} {w0 : World} {p0_0 p0_1 p0_2 p0_3 p0_4 p0_5 : Int} {p0_6 p0_7 : Value} (h : vc_mvcc_clone R w0 (old w0) p0_0 p0_1 p0_2 p0_3 p0_4 p0_5 p0_6 p0_7) : Calls Tryz.prog 320 #[(.agg #[(I p0_0), (I p0_1), (I p0_2), (I p0_3), (I p0_4), (I p0_5), p0_6, p0_7])] w0 R :=
  calls_of_vc (pl := pl_mvcc_clone) Tryz.func320 (by kernel_rfl) (by kernel_rfl) h
noncomputable def pl_place_Hash : Plan := ⟨37, [], [], [0, 2, 3, 4, 6, 8, 9, 10, 21, 22, 23], [], [3, 9, 22]⟩
def vc_place_Hash (R : Ending → World → Prop) (w0 : World) (X0 : XS) (p0 : ByteArray) : Prop :=
 ((rdV Tryz.prog X0 w0 (lnT 9 3 (.string p0)) fun x8_5 =>
 (lp2 X0 w0 (I 0) (Value.int IntKind.u64 14695981039346656037) 9 3 fun J_7 n_8 v_12 v_13 w_10 X_11 =>
 rdV Tryz.prog X_11 w_10 (binOp .lss 3 v_12 x8_5) fun x10_15 =>
 (condW x10_15
 (((rdV Tryz.prog X_11 w_10 (Instr.index 9 (.string p0) v_12) fun x15_21 =>
 rdV Tryz.prog X_11 w_10 (cvI IntKind.u64 5 196 x15_21) fun x16_22 =>
 rdV Tryz.prog X_11 w_10 (binOp .xor 196 v_13 x16_22) fun x17_23 =>
 (rdV Tryz.prog X_11 w_10 (binOp .mul 196 x17_23 (Value.int IntKind.u64 1099511628211)) fun x19_24 =>
 ((rdV Tryz.prog X_11 w_10 (binOp .add 3 v_12 (I 1)) fun x20_25 =>
 nx2 J_7 n_8 x20_25 x19_24 w_10 X_11))))))
 (((rdV Tryz.prog X_11 w_10 (bld 409 #[(Value.int IntKind.u64 18397679294719823053), (Value.int IntKind.u64 14181476777654086739)] #[(0, (Value.int IntKind.u64 18397679294719823053)), (1, (Value.int IntKind.u64 14181476777654086739))]) fun x21_28 =>
 (lp2 X_11 w_10 (I 0) v_13 22 3 fun J_30 n_31 v_35 v_36 w_33 X_34 =>
 rdV Tryz.prog X_34 w_33 (binOp .lss 3 v_35 (I 2)) fun x23_38 =>
 (condW x23_38
 ((rdV Tryz.prog X_34 w_33 (ixA 409 2 196 x21_28 v_35) fun x24_43 =>
 (rdV Tryz.prog X_34 w_33 (binOp .shr 196 v_36 (Value.int IntKind.u64 33)) fun x27_45 =>
 rdV Tryz.prog X_34 w_33 (binOp .xor 196 v_36 x27_45) fun x28_46 =>
 (rdV Tryz.prog X_34 w_33 (binOp .mul 196 x28_46 x24_43) fun x31_47 =>
 ((rdV Tryz.prog X_34 w_33 (binOp .add 3 v_35 (I 1)) fun x32_48 =>
 nx2 J_30 n_31 x32_48 x31_47 w_33 X_34))))))
 (((rdV Tryz.prog X_34 w_33 (binOp .shr 196 v_36 (Value.int IntKind.u64 33)) fun x35_50 =>
 rdV Tryz.prog X_34 w_33 (binOp .xor 196 v_36 x35_50) fun x36_51 =>
 (fin R X_34 w_33 x36_51)))))))))))))
theorem ok_place_Hash {R : Ending → World → Prop} {w0 : World} {p0 : ByteArray} (h : vc_place_Hash R w0 (old w0) p0) : Calls Tryz.prog 321 #[(.string p0)] w0 R :=
  calls_of_vc (pl := pl_place_Hash) Tryz.func321 (by kernel_rfl) (by kernel_rfl) h
noncomputable def pl_mvcc_rise : Plan := ⟨32, [], [], [0, 2, 3, 4, 5, 6, 7, 8, 27], [15, 16, 17, 18, 19, 20, 21, 22, 23, 24, 25, 26], [7]⟩
def vc_mvcc_rise (R : Ending → World → Prop) (w0 : World) (X0 : XS) (p0 : Value) : Prop :=
 (rdV Tryz.prog X0 w0 (lnS 36 3 p0) fun x6_4 =>
 (lp1 X0 w0 (I 0) 7 fun J_6 n_7 v_11 w_9 X_10 =>
 rdV Tryz.prog X_10 w_9 (binOp .lss 3 v_11 x6_4) fun x8_13 =>
 (condW x8_13
 ((rdV Tryz.prog X_10 w_9 (ixS 36 1 p0 v_11) fun x10_18 =>
 rdV Tryz.prog X_10 w_9 (ld1 9 x10_18) fun x11_19 =>
 (eC Tryz.prog R X_10 w_9 true 312 #[x11_19] fun x13_21 w_22 X_23 =>
 rdV Tryz.prog X_23 w_22 (Op.unary UnOp.not x13_21) fun x14_24 =>
 un (gSel x14_24 false v_11) fun u_25 =>
 grdW Tryz.prog X_23 w_22 x14_24 false (vS (binOp .gtr 3 u_25 (I 0))) fun x17_26 =>
 un (gSel x14_24 false x17_26) fun u_27 =>
 un (gSel u_27 true p0) fun u_28 =>
 un (gSel u_27 true v_11) fun u_29 =>
 grdW Tryz.prog X_23 w_22 u_27 true (vS (binOp .sub 3 u_29 (I 1))) fun x21_30 =>
 grdW Tryz.prog X_23 w_22 u_27 true (vS (ixS 36 1 u_28 x21_30)) fun x22_31 =>
 grdW Tryz.prog X_23 w_22 u_27 true (vS (ld1 9 x22_31)) fun x23_32 =>
 un (gSel u_27 true x11_19) fun u_33 =>
 grdW Tryz.prog X_23 w_22 u_27 true (vS (binOp .geq 9 x23_32 u_33)) fun x25_34 =>
 grdW Tryz.prog X_23 w_22 x14_24 false (pickN u_27 x25_34 (B false)) fun x26_35 =>
 rdW Tryz.prog X_23 w_22 (pickN x14_24 (B true) x26_35) fun x27_36 =>
 (condW x27_36
 (fin R X_23 w_22 (B false))
 (((rdV Tryz.prog X_23 w_22 (binOp .add 3 v_11 (I 1)) fun x28_38 =>
 nx1 J_6 n_7 x28_38 w_22 X_23)))))))
 (((rdV Tryz.prog X_10 w_9 (lnS 36 3 p0) fun x30_40 =>
 rdV Tryz.prog X_10 w_9 (binOp .leq 3 x30_40 (I 16)) fun x31_41 =>
 (fin R X_10 w_9 x31_41)))))))
theorem ok_mvcc_rise {R : Ending → World → Prop} {w0 : World} {p0 : Value} (h : vc_mvcc_rise R w0 (old w0) p0) : Calls Tryz.prog 322 #[p0] w0 R :=
  calls_of_vc (pl := pl_mvcc_rise) Tryz.func322 (by kernel_rfl) (by kernel_rfl) h
noncomputable def pl_mvcc_writeKeys : Plan := ⟨19, [(5, (Tryz.prog.cellsOf 53))], [13], [0, 2, 3, 6, 7, 8, 9], [], [3, 8]⟩
def vc_mvcc_writeKeys (R : Ending → World → Prop) (w0 : World) (X0 : XS) (p0 : Value) : Prop :=
 ((rdV Tryz.prog X0 w0 (lnS 23 3 p0) fun x7_5 =>
 (lp2 X0 w0 (I 0) (.slice none 0 0) 8 3 fun J_7 n_8 v_12 v_13 w_10 X_11 =>
 rdV Tryz.prog X_11 w_10 (binOp .lss 3 v_12 x7_5) fun x9_15 =>
 (condW x9_15
 ((rdV Tryz.prog X_11 w_10 (ixS 23 4 p0 v_12) fun x10_20 =>
 rdV Tryz.prog X_11 w_10 (ldA 53 4 x10_20) fun x11_21 =>
 un (Value.agg (Value.cells x11_21)) fun u_22 =>
 chk (List.length (Array.toList (Value.cells x11_21)) == 4) (chk (List.all (Array.toList (Value.cells x11_21)) one) ((chk (isA u_22) (un (cellOf u_22 0) fun u_23 =>
 eV Tryz.prog R X_11 w_10 true (bsS 36 9 1 1 #[(0, u_23)]) fun x15_24 w_25 X_26 =>
 eV Tryz.prog R X_26 w_25 true (apS 36 9 1 16 36 v_13 x15_24) fun x16_27 w_28 X_29 =>
 ((rdV Tryz.prog X_29 w_28 (binOp .add 3 v_12 (I 1)) fun x17_30 =>
 nx2 J_7 n_8 x17_30 x16_27 w_28 X_29))))))))
 (fin R X_11 w_10 v_13)))))
theorem ok_mvcc_writeKeys {R : Ending → World → Prop} {w0 : World} {p0 : Value} (h : vc_mvcc_writeKeys R w0 (old w0) p0) : Calls Tryz.prog 323 #[p0] w0 R :=
  calls_of_vc (pl := pl_mvcc_writeKeys) Tryz.func323 (by kernel_rfl) (by kernel_rfl) h
noncomputable def pl_num_Class : Plan := ⟨36, [], [], [0, 2, 3, 4, 5, 6, 14, 21, 24, 27, 32], [17, 18, 19], []⟩
def vc_num_Class (R : Ending → World → Prop) (w0 : World) (X0 : XS) (p0 : Nat) : Prop :=
 (eC Tryz.prog R X0 w0 true 225 #[(.float .f64 p0)] fun x8_3 w_4 X_5 =>
 (rdV Tryz.prog X_5 w_4 (binOp .shr 196 x8_3 (Value.int IntKind.u64 52)) fun x10_7 =>
 rdV Tryz.prog X_5 w_4 (binOp .and 196 x10_7 (Value.int IntKind.u64 2047)) fun x11_8 =>
 rdV Tryz.prog X_5 w_4 (binOp .and 196 x8_3 (Value.int IntKind.u64 4503599627370495)) fun x13_9 =>
 (((jn (fun (y6_25 : Value) =>
 (rdV Tryz.prog X_5 w_4 (binOp .and 196 x8_3 (Value.int IntKind.u64 9223372036854775808)) fun x31_29 =>
 rdV Tryz.prog X_5 w_4 (binS .neq 196 (.tmp 31) (.const (Value.int IntKind.u64 0)) x31_29 (Value.int IntKind.u64 0)) fun x32_30 =>
 (condW x32_30
 (rdV Tryz.prog X_5 w_4 (binOp .sub 3 (I 9) y6_25) fun x34_32 =>
 (fin R X_5 w_4 x34_32))
 (fin R X_5 w_4 y6_25)))) fun k_26 =>
 rdV Tryz.prog X_5 w_4 (binS .eql 196 (.tmp 15) (.const (Value.int IntKind.u64 2047)) x11_8 (Value.int IntKind.u64 2047)) fun x16_14 =>
 un (gSel x16_14 true x13_9) fun u_15 =>
 grdW Tryz.prog X_5 w_4 x16_14 true (vS (binS .neq 196 (.tmp 18) (.const (Value.int IntKind.u64 0)) u_15 (Value.int IntKind.u64 0))) fun x19_16 =>
 rdW Tryz.prog X_5 w_4 (pickN x16_14 x19_16 (B false)) fun x20_17 =>
 (condW x20_17
 (fin R X_5 w_4 (I 0))
 (rdV Tryz.prog X_5 w_4 (binS .eql 196 (.tmp 22) (.const (Value.int IntKind.u64 2047)) x11_8 (Value.int IntKind.u64 2047)) fun x23_20 =>
 (condW x23_20
 (k_26 (I 8))
 (rdV Tryz.prog X_5 w_4 (binOp .gtr 196 x11_8 (Value.int IntKind.u64 0)) fun x26_22 =>
 (condW x26_22
 (k_26 (I 7))
 (rdV Tryz.prog X_5 w_4 (binOp .gtr 196 x13_9 (Value.int IntKind.u64 0)) fun x29_24 =>
 (condW x29_24
 (k_26 (I 6))
 (k_26 (I 5))))))))))))))
theorem ok_num_Class {R : Ending → World → Prop} {w0 : World} {p0 : Nat} (h : vc_num_Class R w0 (old w0) p0) : Calls Tryz.prog 348 #[(.float .f64 p0)] w0 R :=
  calls_of_vc (pl := pl_num_Class) Tryz.func348 (by kernel_rfl) (by kernel_rfl) h
noncomputable def pl_mvcc_writes : Plan := ⟨9, [(2, (Tryz.prog.cellsOf 229))], [5], [0, 1, 3, 4], [], []⟩
def vc_mvcc_writes (R : Ending → World → Prop) (w0 : World) (X0 : XS) (_p0_0 _p0_1 _p0_2 _p0_3 _p0_4 _p0_5 : Int) (_p0_6 p0_7 : Value) (p1 : ByteArray) : Prop :=
 eV Tryz.prog R X0 w0 true (Instr.box 9 (.string p1)) fun x3_2 w_3 X_4 =>
 (rdV Tryz.prog X_4 w_3 (Instr.makeFunc (Fn.func 370) #[] #[x3_2]) fun x7_6 =>
 eC Tryz.prog R X_4 w_3 true 369 #[p0_7, x7_6] fun x8_7 w_8 X_9 =>
 (fin R X_9 w_8 x8_7))
theorem ok_mvcc_writes {R : Ending → World → Prop} {w0 : World} {p0_0 p0_1 p0_2 p0_3 p0_4 p0_5 : Int} {p0_6 p0_7 : Value} {p1 : ByteArray} (h : vc_mvcc_writes R w0 (old w0) p0_0 p0_1 p0_2 p0_3 p0_4 p0_5 p0_6 p0_7 p1) : Calls Tryz.prog 350 #[(.agg #[(I p0_0), (I p0_1), (I p0_2), (I p0_3), (I p0_4), (I p0_5), p0_6, p0_7]), (.string p1)] w0 R :=
  calls_of_vc (pl := pl_mvcc_writes) Tryz.func350 (by kernel_rfl) (by kernel_rfl) h
noncomputable def pl_sink_Node_Step : Plan := ⟨92, [(2, (Tryz.prog.cellsOf 28)), (3, (Tryz.prog.cellsOf 48)), (4, (Tryz.prog.cellsOf 56)), (5, (Tryz.prog.cellsOf 29))], [17, 22, 26, 31, 35, 45, 55, 57, 59, 61, 70, 72, 74, 84], [0, 1, 7, 12, 30, 52, 68], [16, 18, 19, 21, 23, 24, 25, 27, 28, 29, 34, 36, 37, 38, 39, 40, 41, 42, 44, 46, 47, 48, 49, 50, 51], []⟩
def vc_sink_Node_Step (R : Ending → World → Prop) (w0 : World) (X0 : XS) (p0 : Value) (p1_0 p1_1 p1_2 p1_3 p1_4 p1_5 p1_6 p1_7 p1_8 p1_9 p1_10 p1_11 p1_12 p1_13 p1_14 : Int) (p1_15 : Bool) (p1_16 p1_17 : Int) (p1_18 p1_19 p1_20 p1_21 p1_22 p1_23 : Value) (p1_24 p1_25 : Int) (p1_26 p1_27 : Nat) (p1_28 p1_29 p1_30 p1_31 p1_32 p1_33 : Int) (p1_34 p1_35 : Value) : Prop :=
 chk (one p0) ((rdW Tryz.prog X0 w0 (nilN p0) fun x10_4 =>
 rdV Tryz.prog X0 w0 (fld 112 3 3 1 x10_4) fun x11_5 =>
 rdV Tryz.prog X0 w0 (ld1 4 x11_5) fun x12_6 =>
 (condW x12_6
 ((fin R X0 w0 (Value.tuple #[(.slice none 0 0), (I 12)])))
 ((eC Tryz.prog R X0 w0 true 52 #[(.agg #[(I p1_0), (I p1_1), (I p1_2), (I p1_3), (I p1_4), (I p1_5), (I p1_6), (I p1_7), (I p1_8), (I p1_9), (I p1_10), (I p1_11), (I p1_12), (I p1_13), (I p1_14), (B p1_15), (I p1_16), (I p1_17), p1_18, p1_19, p1_20, p1_21, p1_22, p1_23, (I p1_24), (I p1_25), (.float .f64 p1_26), (.float .f64 p1_27), (I p1_28), (I p1_29), (I p1_30), (I p1_31), (I p1_32), (I p1_33), p1_34, p1_35])] fun x14_10 w_11 X_12 =>
 rdV Tryz.prog X_12 w_11 (binS .neq 29 (.tmp 14) (.const (I 0)) x14_10 (I 0)) fun x15_13 =>
 un (gSel x15_13 false (I p1_2)) fun u_14 =>
 grdW Tryz.prog X_12 w_11 x15_13 false (vS (binS .neq 3 (.tmp 18) (.const (I 32)) u_14 (I 32))) fun x19_15 =>
 rdW Tryz.prog X_12 w_11 (pickN x15_13 (B true) x19_15) fun x20_16 =>
 un (gSel x20_16 false (I p1_0)) fun u_17 =>
 grdW Tryz.prog X_12 w_11 x20_16 false (vS (binS .neq 3 (.tmp 23) (.const (I 12)) u_17 (I 12))) fun x24_18 =>
 un (gSel x20_16 false x24_18) fun u_19 =>
 un (gSel u_19 true (I p1_0)) fun u_20 =>
 grdW Tryz.prog X_12 w_11 u_19 true (vS (binS .neq 3 (.tmp 27) (.const (I 13)) u_20 (I 13))) fun x28_21 =>
 grdW Tryz.prog X_12 w_11 x20_16 false (pickN u_19 x28_21 (B false)) fun x29_22 =>
 rdW Tryz.prog X_12 w_11 (pickN x20_16 (B true) x29_22) fun x30_23 =>
 (condW x30_23
 ((fin R X_12 w_11 (Value.tuple #[(.slice none 0 0), (I 0)])))
 (((jn (fun (w_67 : World) (X_68 : XS) =>
 rdW Tryz.prog X_68 w_67 (nilN p0) fun x87_71 =>
 rdV Tryz.prog X_68 w_67 (fld 112 5 5 3 x87_71) fun x88_72 =>
 rdV Tryz.prog X_68 w_67 (ldA 35 3 x88_72) fun x89_73 =>
 un (cellOf x89_73 0) fun u_74 =>
 un (cellOf x89_73 1) fun u_75 =>
 un (cellOf x89_73 2) fun u_76 =>
 rdV Tryz.prog X_68 w_67 (bld 48 #[(I 14), (I 32), (I p1_1), (I 0), (I 0), (I 0), (I 0), (I 0), (I 0), u_74, u_75, u_76, (I 0), (I 0), (I 0), (B false), (I 0), (I 0), (.slice none 0 0), (.slice none 0 0), (.slice none 0 0), (.slice none 0 0), (.slice none 0 0), (.slice none 0 0), (I 0), (I 0), (.float .f64 0), (.float .f64 0), (I 0), (I 0), (I 0), (I 0), (I 0), (I 0), (.slice none 0 0), (.slice none 0 0)] #[(0, (I 14)), (1, (I 32)), (2, (I p1_1)), (7, x89_73)]) fun x90_77 =>
 eV Tryz.prog R X_68 w_67 true (bsS 56 48 36 1 #[(0, x90_77)]) fun x91_78 w_79 X_80 =>
 chk (one x91_78) ((fin R X_80 w_79 (Value.tuple #[x91_78, (I 0)])))) fun k_69 =>
 rdV Tryz.prog X_12 w_11 (binS .eql 3 (.tmp 32) (.const (I 12)) (I p1_0) (I 12)) fun x33_27 =>
 un (gSel x33_27 true (.agg #[(I p1_9), (I p1_10), (I p1_11)])) fun u_28 =>
 un (gSel x33_27 true p0) fun u_29 =>
 grdW Tryz.prog X_12 w_11 x33_27 true (nilN u_29) fun x38_30 =>
 grdW Tryz.prog X_12 w_11 x33_27 true (vS (fld 112 5 5 3 x38_30)) fun x39_31 =>
 grdW Tryz.prog X_12 w_11 x33_27 true (vS (ldA 35 3 x39_31)) fun x40_32 =>
 jn (fun (x41_33 : Value) (w_34 : World) (X_35 : XS) =>
 grdW Tryz.prog X_35 w_34 x33_27 true (vS (binOp .gtr 3 x41_33 (I 0))) fun x42_37 =>
 rdW Tryz.prog X_35 w_34 (pickN x33_27 x42_37 (B false)) fun x43_38 =>
 un (gSel x43_38 true (.agg #[(I p1_12), (I p1_13), (I p1_14)])) fun u_39 =>
 un (gSel x43_38 true p0) fun u_40 =>
 grdW Tryz.prog X_35 w_34 x43_38 true (nilN u_40) fun x48_41 =>
 grdW Tryz.prog X_35 w_34 x43_38 true (vS (fld 112 5 5 3 x48_41)) fun x49_42 =>
 grdW Tryz.prog X_35 w_34 x43_38 true (vS (ldA 35 3 x49_42)) fun x50_43 =>
 grdW Tryz.prog X_35 w_34 x43_38 true (vS (binS .eql 35 (.tmp 46) (.tmp 50) u_39 x50_43)) fun x51_44 =>
 rdW Tryz.prog X_35 w_34 (pickN x43_38 x51_44 (B false)) fun x52_45 =>
 (condW x52_45
 (rdV Tryz.prog X_35 w_34 (bld 117 #[(I 11), (I p1_3), (I p1_4), (I p1_5), (I p1_9), (I p1_10), (I p1_11), (I p1_12), (I p1_13), (I p1_14), (B false), (I 0), (.float .f64 0), (.slice none 0 0), p1_20, (.slice none 0 0), (.slice none 0 0), (I 0), (I 0), (.float .f64 0), (.float .f64 0), (I 0), (I 0), (I 0), (I 0), (I 0), (I 0), (.slice none 0 0), (.slice none 0 0)] #[(0, (I 11)), (3, (.agg #[(I p1_12), (I p1_13), (I p1_14)])), (2, (.agg #[(I p1_9), (I p1_10), (I p1_11)])), (1, (.agg #[(I p1_3), (I p1_4), (I p1_5)])), (8, p1_20)]) fun x63_47 =>
 eC Tryz.prog R X_35 w_34 true 54 #[p0, x63_47] fun x64_48 w_49 X_50 =>
 rdV Tryz.prog X_50 w_49 (Instr.extract x64_48 0) fun _ =>
 rdV Tryz.prog X_50 w_49 (Instr.extract x64_48 1) fun x66_52 =>
 (rdV Tryz.prog X_50 w_49 (binS .eql 29 (.tmp 67) (.const (I 0)) x66_52 (I 0)) fun x68_54 =>
 (condW x68_54
 (eC Tryz.prog R X_50 w_49 true 55 #[p0, (.agg #[(I p1_3), (I p1_4), (I p1_5)]), (.agg #[(I p1_9), (I p1_10), (I p1_11)]), p1_20] fun _ w_57 X_58 =>
 (rdW Tryz.prog X_58 w_57 (nilN p0) fun x78_59 =>
 rdV Tryz.prog X_58 w_57 (fld 112 2 2 1 x78_59) fun x79_60 =>
 rdV Tryz.prog X_58 w_57 (ld1 3 x79_60) fun x80_61 =>
 rdV Tryz.prog X_58 w_57 (binOp .add 3 x80_61 (I 1)) fun x81_62 =>
 rdW Tryz.prog X_58 w_57 (nilN p0) fun x82_63 =>
 rdV Tryz.prog X_58 w_57 (fld 112 2 2 1 x82_63) fun x83_64 =>
 eU Tryz.prog R X_58 w_57 true (st1 3 1 x83_64 x81_62) fun _ w_65 X_66 =>
 (k_69 w_65 X_66)))
 (k_69 w_49 X_50))))
 (k_69 w_34 X_35))) fun k_36 =>
 (gE x33_27 true (eC Tryz.prog R X_12 w_11 true 53 #[u_28, x40_32] k_36) (k_36 undef w_11 X_12)))))))))))
theorem ok_sink_Node_Step {R : Ending → World → Prop} {w0 : World} {p0 : Value} {p1_0 p1_1 p1_2 p1_3 p1_4 p1_5 p1_6 p1_7 p1_8 p1_9 p1_10 p1_11 p1_12 p1_13 p1_14 : Int} {p1_15 : Bool} {p1_16 p1_17 : Int} {p1_18 p1_19 p1_20 p1_21 p1_22 p1_23 : Value} {p1_24 p1_25 : Int} {p1_26 p1_27 : Nat} {p1_28 p1_29 p1_30 p1_31 p1_32 p1_33 : Int} {p1_34 p1_35 : Value} (hno : ∀ g, defG Tryz.f15 = some g → Idle Tryz.prog g) (hR : ∀ ch w, ¬ R (.panicked ch) w) (h : vc_sink_Node_Step R w0 (old w0) p0 p1_0 p1_1 p1_2 p1_3 p1_4 p1_5 p1_6 p1_7 p1_8 p1_9 p1_10 p1_11 p1_12 p1_13 p1_14 p1_15 p1_16 p1_17 p1_18 p1_19 p1_20 p1_21 p1_22 p1_23 p1_24 p1_25 p1_26 p1_27 p1_28 p1_29 p1_30 p1_31 p1_32 p1_33 p1_34 p1_35) : Calls Tryz.prog 15 #[p0, (.agg #[(I p1_0), (I p1_1), (I p1_2), (I p1_3), (I p1_4), (I p1_5), (I p1_6), (I p1_7), (I p1_8), (I p1_9), (I p1_10), (I p1_11), (I p1_12), (I p1_13), (I p1_14), (B p1_15), (I p1_16), (I p1_17), p1_18, p1_19, p1_20, p1_21, p1_22, p1_23, (I p1_24), (I p1_25), (.float .f64 p1_26), (.float .f64 p1_27), (I p1_28), (I p1_29), (I p1_30), (I p1_31), (I p1_32), (I p1_33), p1_34, p1_35])] w0 R :=
  calls_of_vcE (pl := pl_sink_Node_Step) Tryz.func15 (by kernel_rfl) hno hR (by kernel_rfl) h
noncomputable def pl_sink_Node_Tick : Plan := ⟨52, [(1, (Tryz.prog.cellsOf 28)), (2, (Tryz.prog.cellsOf 29))], [], [0, 3, 5, 10, 40], [16, 17, 18, 19, 20, 21, 22, 23, 24, 25], []⟩
def vc_sink_Node_Tick (R : Ending → World → Prop) (w0 : World) (X0 : XS) (p0 : Value) : Prop :=
 chk (one p0) ((rdW Tryz.prog X0 w0 (nilN p0) fun x7_5 =>
 rdV Tryz.prog X0 w0 (fld 112 3 3 1 x7_5) fun x8_6 =>
 rdV Tryz.prog X0 w0 (ld1 4 x8_6) fun x9_7 =>
 (condW x9_7
 (fin R X0 w0 (I 12))
 (rdW Tryz.prog X0 w0 (nilN p0) fun x12_10 =>
 rdV Tryz.prog X0 w0 (fld 112 1 1 1 x12_10) fun x13_11 =>
 rdV Tryz.prog X0 w0 (ld1 3 x13_11) fun x14_12 =>
 rdV Tryz.prog X0 w0 (binS .eql 3 (.tmp 14) (.const (I 0)) x14_12 (I 0)) fun x15_13 =>
 un (gSel x15_13 false p0) fun u_14 =>
 grdW Tryz.prog X0 w0 x15_13 false (nilN u_14) fun x18_15 =>
 grdW Tryz.prog X0 w0 x15_13 false (vS (fld 112 2 2 1 x18_15)) fun x19_16 =>
 grdW Tryz.prog X0 w0 x15_13 false (vS (ld1 3 x19_16)) fun x20_17 =>
 grdW Tryz.prog X0 w0 x15_13 false (nilN u_14) fun x22_18 =>
 grdW Tryz.prog X0 w0 x15_13 false (vS (fld 112 1 1 1 x22_18)) fun x23_19 =>
 grdW Tryz.prog X0 w0 x15_13 false (vS (ld1 3 x23_19)) fun x24_20 =>
 grdW Tryz.prog X0 w0 x15_13 false (vS (binOp .lss 3 x20_17 x24_20)) fun x25_21 =>
 rdW Tryz.prog X0 w0 (pickN x15_13 (B true) x25_21) fun x26_22 =>
 (condW x26_22
 (fin R X0 w0 (I 0))
 (((rdW Tryz.prog X0 w0 (nilN p0) fun x30_25 =>
 rdV Tryz.prog X0 w0 (fld 112 5 5 3 x30_25) fun x31_26 =>
 rdV Tryz.prog X0 w0 (ldA 35 3 x31_26) fun x32_27 =>
 eC Tryz.prog R X0 w0 false 14 #[p0] fun x34_28 w_29 X_30 =>
 un (cellOf x32_27 0) fun u_31 =>
 un (cellOf x32_27 1) fun u_32 =>
 un (cellOf x32_27 2) fun u_33 =>
 rdV Tryz.prog X_30 w_29 (bld 117 #[(I 12), (I 0), (I 0), (I 0), u_31, u_32, u_33, (I 0), (I 0), (I 0), (B false), (I 0), (.float .f64 0), (.slice none 0 0), (.slice none 0 0), (.slice none 0 0), x34_28, (I 0), (I 0), (.float .f64 0), (.float .f64 0), (I 0), (I 0), (I 0), (I 0), (I 0), (I 0), (.slice none 0 0), (.slice none 0 0)] #[(0, (I 12)), (2, x32_27), (10, x34_28)]) fun x35_34 =>
 eC Tryz.prog R X_30 w_29 true 54 #[p0, x35_34] fun x36_35 w_36 X_37 =>
 rdV Tryz.prog X_37 w_36 (Instr.extract x36_35 0) fun x37_38 =>
 rdV Tryz.prog X_37 w_36 (Instr.extract x36_35 1) fun x38_39 =>
 chk (one x38_39) (((jn (fun (w_57 : World) (X_58 : XS) =>
 (fin R X_58 w_57 (I 0))) fun k_59 =>
 rdV Tryz.prog X_37 w_36 (binS .eql 29 (.tmp 39) (.const (I 0)) x38_39 (I 0)) fun x40_42 =>
 (condW x40_42
 (rdW Tryz.prog X_37 w_36 (nilN p0) fun x42_44 =>
 rdV Tryz.prog X_37 w_36 (fld 112 2 2 1 x42_44) fun x43_45 =>
 eU Tryz.prog R X_37 w_36 true (st1 3 1 x43_45 (I 0)) fun _ w_46 X_47 =>
 (rdW Tryz.prog X_47 w_46 (nilN p0) fun x46_48 =>
 rdV Tryz.prog X_47 w_46 (fld 112 0 0 1 x46_48) fun x47_49 =>
 rdV Tryz.prog X_47 w_46 (ld1 107 x47_49) fun x48_50 =>
 eC Tryz.prog R X_47 w_46 true 58 #[x48_50, x37_38] fun x50_51 w_52 X_53 =>
 eC Tryz.prog R X_53 w_52 true 57 #[p0, x50_51] fun _ w_55 X_56 =>
 (k_59 w_55 X_56)))
 (k_59 w_36 X_37)))))))))))))
theorem ok_sink_Node_Tick {R : Ending → World → Prop} {w0 : World} {p0 : Value} (hno : ∀ g, defG Tryz.f16 = some g → Idle Tryz.prog g) (hR : ∀ ch w, ¬ R (.panicked ch) w) (h : vc_sink_Node_Tick R w0 (old w0) p0) : Calls Tryz.prog 16 #[p0] w0 R :=
  calls_of_vcE (pl := pl_sink_Node_Tick) Tryz.func16 (by kernel_rfl) hno hR (by kernel_rfl) h
end Go.Proofs.YtpdkoaklobnegaaGreat
namespace Go.Proofs.YtpdkoaklobnegaaGreat
open Go.Eng
set_option maxRecDepth 100000
set_option maxHeartbeats 1000000
set_option linter.unusedVariables false
set_option linter.unusedSimpArgs false
abbrev BA := ByteArray
@[ext] structure Stamp where
  wall : Int
  logic : Int
  node : Int
  deriving DecidableEq
abbrev Stamp.l (s : Stamp) : List Value := [I s.wall, I s.logic, I s.node]
abbrev Stamp.v (s : Stamp) : Value := .agg #[I s.wall, I s.logic, I s.node]
abbrev Stamp.zero : Stamp := ⟨0, 0, 0⟩
@[ext] structure Txn where
  coord : Int
  life : Int
  sq : Int
  deriving DecidableEq
abbrev Txn.l (s : Txn) : List Value := [I s.coord, I s.life, I s.sq]
abbrev Txn.v (s : Txn) : Value := .agg #[I s.coord, I s.life, I s.sq]
abbrev Txn.zero : Txn := ⟨0, 0, 0⟩
@[ext] structure Val where
  kind : Int
  num : Nat
  text : BA
  deriving DecidableEq
abbrev Val.l (x : Val) : List Value := [I x.kind, .float .f64 x.num, .string x.text]
abbrev Val.v (x : Val) : Value := .agg #[I x.kind, .float .f64 x.num, .string x.text]
abbrev Val.zero : Val := ⟨0, 0, ⟨#[]⟩⟩
@[ext] structure KV where
  key : BA
  val : Val
  deriving DecidableEq
abbrev KV.l (x : KV) : List Value := [.string x.key, I x.val.kind, .float .f64 x.val.num, .string x.val.text]
abbrev KV.v (x : KV) : Value := .agg #[.string x.key, I x.val.kind, .float .f64 x.val.num, .string x.val.text]
abbrev S1 (x : BA) : List Value := [.string x]
abbrev I1 (x : Int) : List Value := [I x]
@[ext] structure Ver where
  stamp : Stamp
  val : Val
  deriving DecidableEq
abbrev Ver.l (x : Ver) : List Value := [I x.stamp.wall, I x.stamp.logic, I x.stamp.node, I x.val.kind, .float .f64 x.val.num, .string x.val.text]
@[ext] structure Hist where
  key : BA
  vers : List Ver
  deriving DecidableEq
abbrev Hist.l (h : Hist) (vv : Value) : List Value := [.string h.key, vv]
def Hist.rd (w : World) (X : XS) (l : List Value) (h : Hist) : Prop := ∃ vv, l = h.l vv ∧ Sl w X 6 vv (h.vers.map Ver.l)
@[ext] structure Pend where
  txn : Txn
  stamp : Stamp
  reads : List BA
  writes : List KV
  deriving DecidableEq
abbrev Pend.l (p : Pend) (vr vw : Value) : List Value := [I p.txn.coord, I p.txn.life, I p.txn.sq, I p.stamp.wall, I p.stamp.logic, I p.stamp.node, vr, vw]
abbrev Pend.v (p : Pend) (vr vw : Value) : Value := .agg #[I p.txn.coord, I p.txn.life, I p.txn.sq, I p.stamp.wall, I p.stamp.logic, I p.stamp.node, vr, vw]
def Pend.rd (w : World) (X : XS) (l : List Value) (p : Pend) : Prop := ∃ vr vw, l = p.l vr vw ∧ Sl w X 1 vr (p.reads.map S1) ∧ Sl w X 4 vw (p.writes.map KV.l)
@[ext] structure Rng where
  id : Int
  epoch : Int
  lo : Nat
  hi : Nat
  deriving DecidableEq
abbrev Rng.l (r : Rng) : List Value := [I r.id, I r.epoch, .float .f64 r.lo, .float .f64 r.hi]
abbrev Rng.v (r : Rng) : Value := .agg #[I r.id, I r.epoch, .float .f64 r.lo, .float .f64 r.hi]
@[ext] structure State where
  range : Rng
  floor : Stamp
  closed : Stamp
  hists : List Hist
  pend : List Pend
  deriving DecidableEq
abbrev State.l (s : State) (vh vp : Value) : List Value := [I s.range.id, I s.range.epoch, .float .f64 s.range.lo, .float .f64 s.range.hi,
  I s.floor.wall, I s.floor.logic, I s.floor.node, I s.closed.wall, I s.closed.logic, I s.closed.node, vh, vp]
abbrev State.v (s : State) (vh vp : Value) : Value := .agg #[I s.range.id, I s.range.epoch, .float .f64 s.range.lo, .float .f64 s.range.hi,
  I s.floor.wall, I s.floor.logic, I s.floor.node, I s.closed.wall, I s.closed.logic, I s.closed.node, vh, vp]
abbrev Hists (w : World) (X : XS) (v : Value) (l : List Hist) : Prop := Rws w X 2 v Hist.rd l
abbrev Pends (w : World) (X : XS) (v : Value) (l : List Pend) : Prop := Rws w X 8 v Pend.rd l
def State.rd (w : World) (X : XS) (l : List Value) (s : State) : Prop := ∃ vh vp, l = s.l vh vp ∧ Hists w X vh s.hists ∧ Pends w X vp s.pend
@[ext] structure Rec where
  kind : Int
  txn : Txn
  stamp : Stamp
  prev : Stamp
  commit : Bool
  n : Int
  point : Nat
  reads : List BA
  writes : List KV
  parts : List Int
  pairs : List KV
  state : State
  deriving DecidableEq
abbrev Rec.l (r : Rec) (vr vw vp vq vh vd : Value) : List Value := [I r.kind, I r.txn.coord, I r.txn.life, I r.txn.sq, I r.stamp.wall, I r.stamp.logic, I r.stamp.node,
  I r.prev.wall, I r.prev.logic, I r.prev.node, B r.commit, I r.n, .float .f64 r.point, vr, vw, vp, vq, I r.state.range.id, I r.state.range.epoch, .float .f64 r.state.range.lo, .float .f64 r.state.range.hi,
  I r.state.floor.wall, I r.state.floor.logic, I r.state.floor.node, I r.state.closed.wall, I r.state.closed.logic, I r.state.closed.node, vh, vd]
abbrev Rec.v (r : Rec) (vr vw vp vq vh vd : Value) : Value := .agg #[I r.kind, I r.txn.coord, I r.txn.life, I r.txn.sq, I r.stamp.wall, I r.stamp.logic, I r.stamp.node,
  I r.prev.wall, I r.prev.logic, I r.prev.node, B r.commit, I r.n, .float .f64 r.point, vr, vw, vp, vq, I r.state.range.id, I r.state.range.epoch, .float .f64 r.state.range.lo, .float .f64 r.state.range.hi,
  I r.state.floor.wall, I r.state.floor.logic, I r.state.floor.node, I r.state.closed.wall, I r.state.closed.logic, I r.state.closed.node, vh, vd]
def Rec.at (w : World) (X : XS) (r : Rec) (vr vw vp vq vh vd : Value) : Prop :=
  Sl w X 1 vr (r.reads.map S1) ∧ Sl w X 4 vw (r.writes.map KV.l) ∧ Sl w X 1 vp (r.parts.map I1) ∧ Sl w X 4 vq (r.pairs.map KV.l) ∧ Hists w X vh r.state.hists ∧ Pends w X vd r.state.pend
def Rec.rd (w : World) (X : XS) (l : List Value) (r : Rec) : Prop := ∃ vr vw vp vq vh vd, l = r.l vr vw vp vq vh vd ∧ r.at w X vr vw vp vq vh vd
theorem Hist.mv : Moves Hist.rd := fun ⟨vv, h, h1⟩ m => ⟨vv, h, h1.mv m⟩
theorem Pend.mv : Moves Pend.rd := fun ⟨vr, vw, h, h1, h2⟩ m => ⟨vr, vw, h, h1.mv m, h2.mv m⟩
theorem Hists.mv {w w' : World} {X Y : XS} {v : Value} {l : List Hist} (h : Hists w X v l) (m : Mv X w Y w') : Hists w' Y v l := Rws.mv h Hist.mv m
theorem Pends.mv {w w' : World} {X Y : XS} {v : Value} {l : List Pend} (h : Pends w X v l) (m : Mv X w Y w') : Pends w' Y v l := Rws.mv h Pend.mv m
theorem State.mv : Moves State.rd := fun ⟨vh, vp, h, h1, h2⟩ m => ⟨vh, vp, h, Rws.mv h1 Hist.mv m, Rws.mv h2 Pend.mv m⟩
theorem Rec.at.mv {w w' : World} {X Y : XS} {r : Rec} {vr vw vp vq vh vd : Value} (h : r.at w X vr vw vp vq vh vd) (m : Mv X w Y w') : r.at w' Y vr vw vp vq vh vd :=
  ⟨h.1.mv m, h.2.1.mv m, h.2.2.1.mv m, h.2.2.2.1.mv m, Rws.mv h.2.2.2.2.1 Hist.mv m, Rws.mv h.2.2.2.2.2 Pend.mv m⟩
theorem Rec.mv : Moves Rec.rd := fun ⟨vr, vw, vp, vq, vh, vd, h, h1⟩ m => ⟨vr, vw, vp, vq, vh, vd, h, h1.mv m⟩
section
variable {P : Program} {X X0 : XS} {w w0 : World} {N : Value → Prop}
theorem m_ixP {t : TypeId} {v : Value} {xs : List Pend} {i : Nat} {z : Int} {x : Pend} (h : Pends w0 X0 v xs) (hr : xs[i]? = some x)
    (hz : z = i) (ht : P.underlying t = some (.slice (P.elem t))) (hs : (P.info? (P.elem t)).map (·.size) = some 8)
    (n : ∀ b o vr vw, one vr = true → one vw = true → Cells w0 X0 b o (x.l vr vw) → Sl w0 X0 1 vr (x.reads.map S1) → Sl w0 X0 4 vw (x.writes.map KV.l) → N (ptr b o)) : rdV P X w (ixS t 8 v (.int .i64 z)) N :=
  m_ixR h hr hz ht hs fun b o _ hc ⟨vr, vw, hl, h1, h2⟩ => n b o vr vw h1.one h2.one (hl ▸ hc) h1 h2
theorem m_ixH {t : TypeId} {v : Value} {xs : List Hist} {i : Nat} {z : Int} {x : Hist} (h : Hists w0 X0 v xs) (hr : xs[i]? = some x)
    (hz : z = i) (ht : P.underlying t = some (.slice (P.elem t))) (hs : (P.info? (P.elem t)).map (·.size) = some 2)
    (n : ∀ b o vv, one vv = true → Cells w0 X0 b o (x.l vv) → Sl w0 X0 6 vv (x.vers.map Ver.l) → N (ptr b o)) : rdV P X w (ixS t 2 v (.int .i64 z)) N :=
  m_ixR h hr hz ht hs fun b o _ hc ⟨vv, hl, h1⟩ => n b o vv h1.one (hl ▸ hc) h1
theorem r_eqS {t : TypeId} {xo yo : Operand} (a b : Stamp) (h : intStruct P t 3 = true) (hT : a = b → N (.bool true)) (hF : ¬ a = b → N (.bool false)) :
    rdV P X w (binS .eql t xo yo a.v b.v) N := r_eql3 h (fun h1 h2 h3 => hT (Stamp.ext h1 h2 h3)) fun hn => hF fun e => hn (by subst e; exact ⟨rfl, rfl, rfl⟩)
theorem r_neS {t : TypeId} {xo yo : Operand} (a b : Stamp) (h : intStruct P t 3 = true) (hT : ¬ a = b → N (.bool true)) (hF : a = b → N (.bool false)) :
    rdV P X w (binS .neq t xo yo a.v b.v) N := r_neq3 h (fun hn => hT fun e => hn (by subst e; exact ⟨rfl, rfl, rfl⟩)) fun h1 h2 h3 => hF (Stamp.ext h1 h2 h3)
theorem r_eqS0 {t : TypeId} {xo yo : Operand} (a : Stamp) (h : intStruct P t 3 = true) (hT : a = .zero → N (.bool true)) (hF : ¬ a = .zero → N (.bool false)) :
    rdV P X w (binS .eql t xo yo a.v (.agg #[I 0, I 0, I 0])) N := r_eqS a .zero h hT hF
theorem r_neS0 {t : TypeId} {xo yo : Operand} (a : Stamp) (h : intStruct P t 3 = true) (hT : ¬ a = .zero → N (.bool true)) (hF : a = .zero → N (.bool false)) :
    rdV P X w (binS .neq t xo yo a.v (.agg #[I 0, I 0, I 0])) N := r_neS a .zero h hT hF
theorem r_eqT {t : TypeId} {xo yo : Operand} (a b : Txn) (h : intStruct P t 3 = true) (hT : a = b → N (.bool true)) (hF : ¬ a = b → N (.bool false)) :
    rdV P X w (binS .eql t xo yo a.v b.v) N := r_eql3 h (fun h1 h2 h3 => hT (Txn.ext h1 h2 h3)) fun hn => hF fun e => hn (by subst e; exact ⟨rfl, rfl, rfl⟩)
theorem r_eqT0 {t : TypeId} {xo yo : Operand} (a : Txn) (h : intStruct P t 3 = true) (hT : a = .zero → N (.bool true)) (hF : ¬ a = .zero → N (.bool false)) :
    rdV P X w (binS .eql t xo yo a.v (.agg #[I 0, I 0, I 0])) N := r_eqT a .zero h hT hF
end
def lim : Nat := 2 ^ 20
def Pend.small (p : Pend) : Prop := p.reads.length ≤ lim ∧ p.writes.length ≤ lim
end Go.Proofs.YtpdkoaklobnegaaGreat
namespace Go.Proofs.YtpdkoaklobnegaaGreat
open Go.Eng
set_option maxRecDepth 100000
set_option maxHeartbeats 1000000
set_option linter.unusedVariables false
set_option linter.unusedSimpArgs false
attribute [local irreducible] un jn chk fld ld1 ldA st1 ixS lnS lnT bld cvI cvF ixA bsS apS rdV rdW grdW eW eV eU eC eF gE condW fin pickN nilN binS vS lp0 lp1 lp2 lp3 lp4 lp5 lp6 lp7 nx0 nx1 nx2 nx3 nx4 nx5 nx6 nx7
def Stamp.cmp (a b : Stamp) : Int :=
  let p := if a.wall ≠ b.wall then (a.wall, b.wall) else if a.logic ≠ b.logic then (a.logic, b.logic) else (a.node, b.node)
  if p.1 < p.2 then -1 else if p.1 > p.2 then 1 else 0
def Txn.less (a b : Txn) : Bool :=
  if a.coord ≠ b.coord then a.coord < b.coord else if a.life ≠ b.life then a.life < b.life else a.sq < b.sq
def Txn.may (a : Txn) : Bool := a.coord ≥ 1 && a.coord ≤ 2 && a.life ≥ 1 && a.sq ≥ 1
def Stamp.may (a : Stamp) : Bool := a.wall ≥ 0 && a.wall ≤ 281474976710656 && a.logic ≥ 0 && a.logic ≤ 65535 && a.node ≥ 0 && a.node ≤ 63
def Stamp.moment (a : Stamp) : Bool := a.may && !decide (a = .zero)
theorem c_hlc_Compare (a b : Stamp) : Pure Tryz.prog 53 #[a.v, b.v] (I (a.cmp b)) := by
  intro w0
  apply ok_hlc_Compare; unfold vc_hlc_Compare
  have hs := Since.init w0
  repeat' first | with_reducible (first | apply condW_T | apply condW_F) | (with_reducible apply r_lss <;> intro _) | (with_reducible apply r_neq <;> intro _) | (with_reducible apply r_gtr <;> intro _) | with_reducible apply jn_of | ((with_reducible refine fin_pure hs ?_); simp_all [Stamp.cmp] <;> omega)
theorem c_mvcc_TxnMay (a : Txn) : Pure Tryz.prog 238 #[a.v] (B a.may) := by
  intro w0
  apply ok_mvcc_TxnMay; unfold vc_mvcc_TxnMay
  have hs := Since.init w0
  repeat' first | with_reducible (first | apply un_selT | apply un_selFT | apply grdV_onT | apply grdW_offT | apply rdW_pickT | apply rdW_pickF) | (with_reducible apply r_leq <;> intro _) | (with_reducible apply r_geq <;> intro _) | ((with_reducible refine fin_pure hs ?_); simp_all [Txn.may] <;> omega)
theorem c_hlc_May (a : Stamp) : Pure Tryz.prog 165 #[a.v] (B a.may) := by
  intro w0
  apply ok_hlc_May; unfold vc_hlc_May
  have hs := Since.init w0
  repeat' first | with_reducible (first | apply un_selT | apply un_selFT | apply grdV_onT | apply grdW_offT | apply rdW_pickT | apply rdW_pickF) | (with_reducible apply r_leq <;> intro _) | (with_reducible apply r_geq <;> intro _) | ((with_reducible refine fin_pure hs ?_); simp_all [Stamp.may] <;> omega)
theorem c_recs_ranges (n : Int) : Pure Tryz.prog 301 #[I n] (B (decide (n ≥ 1) && decide (n ≤ 12))) := by
  intro w0
  apply ok_recs_ranges; unfold vc_recs_ranges
  have hs := Since.init w0
  repeat' first | with_reducible (first | apply un_selT | apply un_selFT | apply grdV_onT | apply grdW_offT | apply rdW_pickT | apply rdW_pickF) | (with_reducible apply r_leq <;> intro _) | (with_reducible apply r_geq <;> intro _) | ((with_reducible refine fin_pure hs ?_); simp_all <;> omega)
theorem c_recs_moment (a : Stamp) : Pure Tryz.prog 302 #[a.v] (B a.moment) := by
  intro w0
  apply ok_recs_moment; unfold vc_recs_moment
  have hs := Since.init w0
  repeat' first | with_reducible (first | apply un_selT | apply un_selFT | apply grdV_onT | apply grdW_offT | apply rdW_pickT | apply rdW_pickF) | ((with_reducible apply r_bld); (· kernel_rfl)) | ((with_reducible refine r_neS0 _ ?_ ?_ ?_); (· kernel_rfl); all_goals intros) | ((with_reducible refine r_pureB (c_hlc_May _) ?_ hs.has ?_ ?_); (· kernel_rfl); all_goals (intro _ w X hs1; replace hs := hs.trans hs1)) | ((with_reducible refine fin_pure hs ?_); simp_all [Stamp.moment])
def Stamp.decided (c : Bool) (a : Stamp) : Bool := if c then a.moment else decide (a = .zero)
theorem c_recs_decided (c : Bool) (a : Stamp) : Pure Tryz.prog 299 #[B c, a.v] (B (a.decided c)) := by
  intro w0
  apply ok_recs_decided; unfold vc_recs_decided
  have hs := Since.init w0
  repeat' first | ((with_reducible apply r_bld); (· kernel_rfl)) | ((with_reducible refine r_eqS0 _ ?_ ?_ ?_); (· kernel_rfl); all_goals intros) | (with_reducible apply condW_b <;> intro _) | ((with_reducible refine r_pureB (c_recs_moment _) ?_ hs.has ?_ ?_); (· kernel_rfl); all_goals (intro _ w X hs1; replace hs := hs.trans hs1)) | ((with_reducible refine fin_pure hs ?_); simp_all [Stamp.decided])
theorem run_bits (x : Nat) (wa : World) : (callFunc 111 #[.float .f64 x]).run Tryz.prog wa = .ok (.value (.int .u64 x)) wa := by kernel_rfl
theorem c_raceref_Bits (a b : Nat) : Pure Tryz.prog 63 #[.float .f64 a, .float .f64 b] (B (decide (a = b))) := by
  intro w0
  apply ok_raceref_Bits; unfold vc_raceref_Bits
  have hs := Since.init w0
  repeat' first | (with_reducible apply r_eql <;> intro _) | ((with_reducible refine fin_pure hs ?_); simp_all [Int.ofNat_inj]) | ((with_reducible refine eC_val (run_bits _) hs.has ?_); intro w X hs1; replace hs := hs.trans hs1)
theorem c_raceref_Value (a b : Val) : Pure Tryz.prog 25 #[a.v, b.v] (B (decide (a = b))) := by
  intro w0
  apply ok_raceref_Value; unfold vc_raceref_Value
  have hs := Since.init w0
  repeat' first | with_reducible (first | apply un_selT | apply un_selFT | apply grdV_onT | apply grdW_offT | apply rdW_pickT | apply rdW_pickF | apply gE_T | apply gE_FT) | (with_reducible apply r_eql <;> intro _) | (with_reducible apply r_seql <;> intro _) | with_reducible apply jn_of | ((with_reducible refine r_pureB (c_raceref_Bits _ _) ?_ hs.has ?_ ?_); (· kernel_rfl); all_goals (intro _ w X hs1; replace hs := hs.trans hs1)) | ((with_reducible refine fin_pure hs ?_); simp_all [Val.ext_iff])
end Go.Proofs.YtpdkoaklobnegaaGreat
namespace Go.Proofs.YtpdkoaklobnegaaGreat
open Go.Eng
set_option maxRecDepth 100000
set_option maxHeartbeats 1000000
set_option linter.unusedVariables false
set_option linter.unusedSimpArgs false
attribute [local irreducible] un jn chk fld ld1 ldA st1 ixS lnS lnT bld cvI cvF ixA bsS apS rdV rdW grdW eW eV eU eC eF gE condW fin pickN nilN binS vS lp0 lp1 lp2 lp3 lp4 lp5 lp6 lp7 nx0 nx1 nx2 nx3 nx4 nx5 nx6 nx7
theorem d_raceref_Pairs {w : World} {X : XS} {a b : Value} {xs ys : List KV} (ha : Sl w X 4 a (xs.map KV.l)) (hb : Sl w X 4 b (ys.map KV.l)) :
    Ct Tryz.prog 18 #[a, b] w X nX fun v _ _ => v = B (decide (xs = ys)) := by
    intro w0 hk
    replace ha := ha.mv hk.mvo
    replace hb := hb.mv hk.mvo
    have hla := ha.len'
    apply ok_raceref_Pairs; unfold vc_raceref_Pairs
    have hs := Since.init w0
    repeat' first | with_reducible (first | apply condW_T | apply condW_F) | (with_reducible apply r_neq <;> intro _) | ((with_reducible apply m_lnS); (· (first | assumption | exact Own.sl (by assumption))); (· kernel_rfl)) | ((first | (with_reducible refine fin_ret0 hs ?_) | (with_reducible refine fin_ret0 (hs0.trans hs) ?_)); intro wa hk; (simp only [B, Value.bool.injEq]; symm; rw [decide_eq_false_iff_not]; rintro rfl; omega))
    have hlen : xs.length = ys.length := by omega
    refine lp1_of (fun n a w X => ∃ i : Nat, a = I (i : Nat) ∧ n = (xs).length - i ∧ i ≤ (xs).length ∧ Since (old w0) w0 X w ∧ (xs = ys ↔ xs.drop i = ys.drop i)) (xs).length ⟨0, rfl, rfl, Nat.zero_le _, hs, by simp⟩ ?_
    rintro n a w X ⟨i, rfl, rfl, hi, hs, hw⟩
    rcases at_or (xs) i with ⟨hlt, x, hx, hd⟩ | ⟨hge, hd⟩
    · obtain ⟨y, hy, hdy⟩ := at_drop (xs := ys) (i := i) (by omega)
      repeat' first | ((with_reducible refine r_lssT ?_ ?_); (· omega)) | with_reducible (first | apply condW_T | apply condW_F | apply un_selF | apply un_selTF | apply grdV_onF | apply grdW_offF | apply rdW_pickT | apply rdW_pickF | apply gE_F | apply gE_TF | apply r_notT | apply r_notF) | (with_reducible apply r_sneq <;> intro _) | ((with_reducible apply m_fld1); (· (first | assumption | exact RowIs.cells (by assumption))); (· kernel_rfl); (· rfl); intro _ _ _) | ((with_reducible apply m_fld); (· (first | assumption | exact RowIs.cells (by assumption))); (· kernel_rfl); (· rfl); (· (simp only [Value.cells, nq1, nq2, nq3, nq4, nq5, nq6, setL, nq7, nq8, nq9, nq0, Nat.reduceAdd, Nat.zero_add]; try rfl)); intro _ _ _) | ((with_reducible apply m_ld1); (· (first | assumption | exact RowIs.cells (by assumption))); (· (first | exact mv0 | exact mv1 (by assumption) | exact mv2 (by assumption) (by assumption))); (· kernel_rfl); (· rfl)) | ((with_reducible apply m_ldA); (· (first | assumption | exact RowIs.cells (by assumption))); (· (first | exact mv0 | exact mv1 (by assumption) | exact mv2 (by assumption) (by assumption))); (· kernel_rfl); (· rfl)) | ((with_reducible apply m_lnS); (· (first | assumption | exact Own.sl (by assumption))); (· kernel_rfl)) | ((with_reducible apply m_ixS); (· (first | assumption | exact Own.sl (by assumption))); (try (case hz => rfl)); (case hr => first | assumption | exact List.getElem?_eq_getElem (by omega)); (try (case hz => omega)); (case ht => kernel_rfl); (case hs => kernel_rfl); intro _ _ _) | ((with_reducible apply r_add); (· omega); (· omega)) | with_reducible apply jn_of | ((with_reducible refine r_pureB (c_raceref_Value _ _) ?_ hs.has ?_ ?_); (· kernel_rfl); all_goals (intro _ w X hs1; replace hs := hs.trans hs1)) | ((first | (with_reducible refine fin_ret0 hs ?_) | (with_reducible refine fin_ret0 (hs0.trans hs) ?_)); intro wa hk; (simp_all [KV.ext_iff, Val.ext_iff])) | ((with_reducible refine nx1_of ((xs).length - (i + 1)) ?_ ?_); (· omega); exact ⟨i + 1, by simp, rfl, by omega, hs, by simp_all [KV.ext_iff, Val.ext_iff]⟩)
    · have hdy := List.drop_of_length_le (l := ys) (i := i) (by omega)
      repeat' first | ((with_reducible refine r_lssF ?_ ?_); (· omega)) | with_reducible apply condW_F | ((with_reducible apply m_lnS); (· (first | assumption | exact Own.sl (by assumption))); (· kernel_rfl)) | ((first | (with_reducible refine fin_ret0 hs ?_) | (with_reducible refine fin_ret0 (hs0.trans hs) ?_)); intro wa hk; simp_all)
end Go.Proofs.YtpdkoaklobnegaaGreat
namespace Go.Proofs.YtpdkoaklobnegaaGreat
open Go.Eng
set_option maxRecDepth 100000
set_option maxHeartbeats 1000000
set_option linter.unusedVariables false
set_option linter.unusedSimpArgs false
attribute [local irreducible] un jn chk fld ld1 ldA st1 ixS lnS lnT bld cvI cvF ixA bsS apS rdV rdW grdW eW eV eU eC eF gE condW fin pickN nilN binS vS lp0 lp1 lp2 lp3 lp4 lp5 lp6 lp7 nx0 nx1 nx2 nx3 nx4 nx5 nx6 nx7
end Go.Proofs.YtpdkoaklobnegaaGreat
namespace Go.Proofs.YtpdkoaklobnegaaGreat
open Go.Eng
set_option maxRecDepth 100000
set_option maxHeartbeats 1000000
set_option linter.unusedVariables false
set_option linter.unusedSimpArgs false
attribute [local irreducible] un jn chk fld ld1 ldA st1 ixS lnS lnT bld cvI cvF ixA bsS apS rdV rdW grdW eW eV eU eC eF gE condW fin pickN nilN binS vS lp0 lp1 lp2 lp3 lp4 lp5 lp6 lp7 nx0 nx1 nx2 nx3 nx4 nx5 nx6 nx7
def goodKey (s : BA) : Bool := decide ((s.size : Int) ≥ 1) && decide ((s.size : Int) ≤ 24)
theorem c_datum_Key (s : BA) : Pure Tryz.prog 312 #[.string s] (B (goodKey s)) := by
  intro w0
  apply ok_datum_Key; unfold vc_datum_Key
  have hs := Since.init w0
  repeat' first | with_reducible (first | apply un_selT | apply un_selFT | apply grdV_onT | apply grdW_offT | apply rdW_pickT | apply rdW_pickF) | (with_reducible apply r_leq <;> intro _) | (with_reducible apply r_geq <;> intro _) | ((with_reducible apply r_lnT); (· kernel_rfl)) | ((with_reducible refine fin_pure hs ?_); simp_all [goodKey] <;> omega)
theorem c_place_In (r : Rng) (x : Nat) : Pure Tryz.prog 248 #[r.v, .float .f64 x] (B ((fgt x r.lo || feq x r.lo) && flt x r.hi)) := by
  intro w0
  apply ok_place_In; unfold vc_place_In
  have hs := Since.init w0
  repeat' first | with_reducible (first | apply un_selT | apply un_selFT | apply grdV_onT | apply grdW_offT | apply rdW_pickT | apply rdW_pickF) | (with_reducible apply r_flss <;> intro _) | (with_reducible apply r_fgeq <;> intros) | ((with_reducible refine fin_pure hs ?_); (simp_all <;> grind))
def canon (x : Nat) : Nat := if feq x x then x else 9221120237041090560
theorem c_num_Canon (x : Nat) : Pure Tryz.prog 304 #[.float .f64 x] (.float .f64 (canon x)) := by
  intro w0
  apply ok_num_Canon; unfold vc_num_Canon
  have hs := Since.init w0
  repeat' first | with_reducible (first | apply condW_T | apply condW_F) | (with_reducible apply r_fneq <;> intro _) | ((with_reducible refine fin_pure hs ?_); simp_all [canon]) | ((with_reducible refine eC_val (v := .float .f64 9221120237041090560) ?_ hs.has ?_); (· intro wa; kernel_rfl); intro w X hs1; replace hs := hs.trans hs1)
theorem c_num_Bits (x : Nat) : Pure Tryz.prog 225 #[.float .f64 x] (.int .u64 (canon x)) := by
  intro w0
  apply ok_num_Bits; unfold vc_num_Bits
  have hs := Since.init w0
  repeat' first | ((with_reducible refine r_pure (c_num_Canon _) ?_ hs.has ?_); (· kernel_rfl); intro w X hs1; replace hs := hs.trans hs1) | ((with_reducible refine fin_pure hs ?_); rfl) | ((with_reducible refine eC_val (run_bits _) hs.has ?_); intro w X hs1; replace hs := hs.trans hs1)
def land (a b : Int) : Int := IntKind.u64.wrap (BitVec.ofInt IntKind.u64.bits a &&& BitVec.ofInt IntKind.u64.bits b).toNat
def ixor (a b : Int) : Int := IntKind.u64.wrap (BitVec.ofInt IntKind.u64.bits a ^^^ BitVec.ofInt IntKind.u64.bits b).toNat
def ishr (a n : Int) : Int := a.fdiv (2 ^ min n.toNat IntKind.u64.bits)
def imul (a b : Int) : Int := IntKind.u64.wrap (a * b)
theorem r_land {P : Program} {X : XS} {w : World} {N : Value → Prop} {t : TypeId} {a b : Int} (h : N (.int .u64 (land a b))) : rdV P X w (binOp .and t (.int .u64 a) (.int .u64 b)) N := rdV_and h
theorem r_ixor {P : Program} {X : XS} {w : World} {N : Value → Prop} {t : TypeId} {a b : Int} (h : N (.int .u64 (ixor a b))) : rdV P X w (binOp .xor t (.int .u64 a) (.int .u64 b)) N := rdV_xor h
theorem r_ishr {P : Program} {X : XS} {w : World} {N : Value → Prop} {t : TypeId} {a b : Int} (hb : ¬ b < 0) (h : N (.int .u64 (ishr a b))) : rdV P X w (binOp .shr t (.int .u64 a) (.int .u64 b)) N := rdV_shr hb h
theorem r_imul {P : Program} {X : XS} {w : World} {N : Value → Prop} {t : TypeId} {a b : Int} (h : N (.int .u64 (imul a b))) : rdV P X w (binOp .mul t (.int .u64 a) (.int .u64 b)) N := rdV_mul h
def cls (x : Nat) : Int :=
  let b : Int := canon x
  let e := land (ishr b 52) 2047
  let f := land b 4503599627370495
  if e = 2047 ∧ f ≠ 0 then 0 else
    let k := if e = 2047 then 8 else if e > 0 then 7 else if f > 0 then 6 else 5
    if land b 9223372036854775808 ≠ 0 then 9 - k else k
theorem c_num_Class (x : Nat) : Pure Tryz.prog 348 #[.float .f64 x] (I (cls x)) := by
  intro w0
  apply ok_num_Class; unfold vc_num_Class
  have hs := Since.init w0
  repeat' first | with_reducible (first | apply condW_T | apply condW_F | apply un_selT | apply un_selFT | apply grdV_onT | apply grdW_offT | apply rdW_pickT | apply rdW_pickF) | (with_reducible apply r_eql <;> intro _) | (with_reducible apply r_neq <;> intro _) | (with_reducible apply r_gtr <;> intro _) | ((with_reducible apply r_sub); (· omega); (· omega)) | with_reducible apply jn_of | ((with_reducible refine r_pure (c_num_Bits _) ?_ hs.has ?_); (· kernel_rfl); intro w X hs1; replace hs := hs.trans hs1) | ((with_reducible refine fin_pure hs ?_); (simp only [cls] at *; grind)) | with_reducible apply r_land | ((with_reducible apply r_ishr); (· omega))
def one64 : Nat := 4607182418800017408
def isPoint (x : Nat) : Bool := decide (cls x ≥ 5) && (flt x one64 || feq x one64)
theorem c_place_point (x : Nat) : Pure Tryz.prog 314 #[.float .f64 x] (B (isPoint x)) := by
  intro w0
  apply ok_place_point; unfold vc_place_point
  have hs := Since.init w0
  repeat' first | with_reducible (first | apply un_selT | apply un_selFT | apply grdV_onT | apply grdW_offT | apply rdW_pickT | apply rdW_pickF) | (with_reducible apply r_geq <;> intro _) | (with_reducible apply r_fleq <;> intros) | ((with_reducible refine r_pure (c_num_Class _) ?_ hs.has ?_); (· kernel_rfl); intro w X hs1; replace hs := hs.trans hs1) | ((with_reducible refine fin_pure hs ?_); (simp_all [isPoint, one64] <;> grind))
def toPoint (x : Nat) : Nat × Int := if cls x = 4 then (0, 0) else if isPoint x then (x, 0) else (0, 1)
theorem c_place_Point (x : Nat) : Pure Tryz.prog 300 #[.float .f64 x] (.tuple #[.float .f64 (toPoint x).1, I (toPoint x).2]) := by
  intro w0
  apply ok_place_Point; unfold vc_place_Point
  have hs := Since.init w0
  repeat' first | with_reducible (first | apply condW_T | apply condW_F | apply r_notT | apply r_notF) | (with_reducible apply r_eql <;> intro _) | ((with_reducible refine r_pureB (c_place_point _) ?_ hs.has ?_ ?_); (· kernel_rfl); all_goals (intro _ w X hs1; replace hs := hs.trans hs1)) | ((with_reducible refine r_pure (c_num_Class _) ?_ hs.has ?_); (· kernel_rfl); intro w X hs1; replace hs := hs.trans hs1) | ((with_reducible refine fin_pure hs ?_); (simp_all [toPoint] <;> grind))
def Rng.may (r : Rng) : Bool := decide (r.id ≥ 1) && decide (r.id ≤ 12) && decide (r.epoch ≥ 0) && isPoint r.lo && isPoint r.hi && flt r.lo r.hi
theorem c_place_May (r : Rng) : Pure Tryz.prog 245 #[r.v] (B r.may) := by
  intro w0
  apply ok_place_May; unfold vc_place_May
  have hs := Since.init w0
  repeat' first | with_reducible (first | apply un_selT | apply un_selFT | apply grdV_onT | apply grdW_offT | apply rdW_pickT | apply rdW_pickF | apply gE_T | apply gE_FT) | (with_reducible apply r_leq <;> intro _) | (with_reducible apply r_geq <;> intro _) | (with_reducible apply r_flss <;> intro _) | with_reducible apply jn_of | ((with_reducible refine r_pureB (c_place_point _) ?_ hs.has ?_ ?_); (· kernel_rfl); all_goals (intro _ w X hs1; replace hs := hs.trans hs1)) | ((with_reducible refine fin_pure hs ?_); (simp_all [Rng.may] <;> omega))
def Val.may (v : Val) : Bool :=
  if v.kind = 0 then decide (v.num = 0) && decide (v.text = ⟨#[]⟩)
  else if v.kind = 1 then decide (v.text = ⟨#[]⟩) && decide (v.num = canon v.num)
  else if v.kind = 2 then decide (v.num = 0) && decide ((v.text.size : Int) ≤ 64)
  else false
theorem c_datum_May (v : Val) : Pure Tryz.prog 158 #[v.v] (B v.may) := by
  intro w0
  apply ok_datum_May; unfold vc_datum_May
  have hs := Since.init w0
  repeat' first | with_reducible (first | apply condW_T | apply condW_F | apply un_selT | apply un_selFT | apply grdV_onT | apply grdW_offT | apply rdW_pickT | apply rdW_pickF | apply gE_T | apply gE_FT) | (with_reducible apply r_eql <;> intro _) | (with_reducible apply r_leq <;> intro _) | (with_reducible apply r_seql <;> intro _) | ((with_reducible apply r_lnT); (· kernel_rfl)) | with_reducible apply jn_of | ((with_reducible refine r_pure (c_num_Bits _) ?_ hs.has ?_); (· kernel_rfl); intro w X hs1; replace hs := hs.trans hs1) | ((with_reducible refine fin_pure hs ?_); (simp_all [Val.may] <;> omega)) | ((with_reducible refine eC_val (run_bits _) hs.has ?_); intro w X hs1; replace hs := hs.trans hs1)
def hstep (h : Int) (b : UInt8) : Int := imul (ixor h (IntKind.u64.wrap b.toNat)) 1099511628211
def hmix (h : Int) : Nat → Int
  | 0 => h
  | 1 => imul (ixor h (ishr h 33)) 18397679294719823053
  | _ => let g := imul (ixor h (ishr h 33)) 18397679294719823053; imul (ixor g (ishr g 33)) 14181476777654086739
def hashOf (s : BA) : Int := let h := hmix (s.data.toList.foldl hstep 14695981039346656037) 2; ixor h (ishr h 33)
theorem c_place_Hash (s : BA) (hbig : s.size ≤ 2 ^ 62) : Pure Tryz.prog 321 #[.string s] (.int .u64 (hashOf s)) := by
  intro w0
  have hsz := size_list s
  apply ok_place_Hash; unfold vc_place_Hash
  have hs := Since.init w0
  repeat' first | ((with_reducible apply r_lnT); (· kernel_rfl))
  refine lp2_of (fun n a b w X => ∃ (i : Nat) (h : Int), a = I i ∧ b = .int .u64 h ∧ n = s.data.toList.length - i ∧ i ≤ s.data.toList.length ∧ Since (old w0) w0 X w ∧
    s.data.toList.foldl hstep 14695981039346656037 = (s.data.toList.drop i).foldl hstep h) s.data.toList.length ?_ ?_
  · exact ⟨0, 14695981039346656037, rfl, rfl, rfl, Nat.zero_le _, hs, by rw [List.drop_zero]⟩
  rintro n a b w X ⟨i, h, rfl, rfl, rfl, hi, hs, hw⟩
  rcases at_or s.data.toList i with ⟨hlt, x, hx, hd⟩ | ⟨hge, hd⟩
  · repeat' first | ((with_reducible refine r_lssT ?_ ?_); (· omega)) | with_reducible apply condW_T | ((with_reducible apply r_add); (· omega); (· omega)) | ((with_reducible apply r_cvI); (· kernel_rfl); (· kernel_rfl)) | ((with_reducible apply r_ixT); (try (case hz => rfl)); (case hb => assumption); (try (case hz => omega)); (case ht => kernel_rfl)) | with_reducible (first | apply r_ixor | apply r_imul) | ((with_reducible refine nx2_of ((s.data.toList).length - (i + 1)) ?_ ?_); (· omega); exact ⟨i + 1, _, by simp, rfl, rfl, by omega, hs, by rw [hw, hd, List.foldl_cons]; rfl⟩)
  · repeat' first | ((with_reducible refine r_lssF ?_ ?_); (· omega)) | with_reducible apply condW_F | ((with_reducible apply r_bld); (· kernel_rfl))
    rw [hd] at hw
    refine lp2_of (fun n a b w X => ∃ (i : Nat), a = I i ∧ b = .int .u64 (hmix h i) ∧ n = 2 - i ∧ i ≤ 2 ∧ Since (old w0) w0 X w) 2 ⟨0, rfl, rfl, rfl, Nat.zero_le _, hs⟩ ?_
    rintro n a b w X ⟨i, rfl, rfl, rfl, hi, hs⟩
    obtain rfl | rfl | rfl : i = 0 ∨ i = 1 ∨ i = 2 := by omega
    · repeat' first | ((with_reducible refine r_lssT ?_ ?_); (· omega)) | with_reducible apply condW_T | ((with_reducible apply r_add); (· omega); (· omega)) | ((with_reducible apply r_ixA); (· kernel_rfl); (· kernel_rfl); (try (case hz => rfl)); (case hn => omega); (case hl => rfl)) | (with_reducible apply r_ixor) | (with_reducible apply r_imul) | ((with_reducible apply r_ishr); (· omega)) | ((with_reducible refine nx2_of 1 ?_ ?_); (· omega); exact ⟨1, rfl, rfl, rfl, by omega, hs⟩)
    · repeat' first | ((with_reducible refine r_lssT ?_ ?_); (· omega)) | with_reducible apply condW_T | ((with_reducible apply r_add); (· omega); (· omega)) | ((with_reducible apply r_ixA); (· kernel_rfl); (· kernel_rfl); (try (case hz => rfl)); (case hn => omega); (case hl => rfl)) | (with_reducible apply r_ixor) | (with_reducible apply r_imul) | ((with_reducible apply r_ishr); (· omega)) | ((with_reducible refine nx2_of 0 ?_ ?_); (· omega); exact ⟨2, rfl, rfl, rfl, by omega, hs⟩)
    · repeat' first | ((with_reducible refine r_lssF ?_ ?_); (· omega)) | with_reducible apply condW_F | ((with_reducible refine fin_pure hs ?_); (simp only [hashOf, hw]; rfl)) | (with_reducible apply r_ixor) | ((with_reducible apply r_ishr); (· omega))
theorem place_some (n : Int) : ∃ r, floatBits .quo .f64 (floatOfInt .f64 n) 4845873199050653696 = some r := by
  have hn : (Ieee.double.read (floatOfInt .f64 n)).isNaN = false := read_nearest _ _ _ _
  have hd : Ieee.double.read 4845873199050653696 = .number false 4503599627370496 1 := by kernel_rfl
  show ∃ r, ((Ieee.double.read (floatOfInt .f64 n)).quotient _ (Ieee.double.read 4845873199050653696)).map _ = some r
  rw [hd]
  cases hr : Ieee.double.read (floatOfInt .f64 n) with
  | number s m p => simp [Ieee.Datum.quotient]
  | infinity s => simp [Ieee.Datum.quotient]
  | nan s f => rw [hr] at hn; simp [Ieee.Datum.isNaN] at hn
def placeOf (s : BA) : Nat := (floatBits .quo .f64 (floatOfInt .f64 (ishr (hashOf s) 11)) 4845873199050653696).getD 0
theorem placeOf_eq (s : BA) : floatBits .quo .f64 (floatOfInt .f64 (ishr (hashOf s) 11)) 4845873199050653696 = some (placeOf s) := by
  obtain ⟨r, hr⟩ := place_some (ishr (hashOf s) 11)
  rw [placeOf, hr]; rfl
theorem c_place_Of (s : BA) (hbig : s.size ≤ 2 ^ 62) : Pure Tryz.prog 249 #[.string s] (.float .f64 (placeOf s)) := by
  intro w0
  apply ok_place_Of; unfold vc_place_Of
  have hs := Since.init w0
  repeat' first | ((with_reducible apply r_cvF); (· kernel_rfl); (· kernel_rfl)) | ((with_reducible refine r_pure (c_place_Hash _ (by first | assumption | omega)) ?_ hs.has ?_); (· kernel_rfl); intro w X hs1; replace hs := hs.trans hs1) | ((with_reducible refine fin_pure hs ?_); rfl) | ((with_reducible apply r_ishr); (· omega)) | ((with_reducible apply r_fop); (· exact placeOf_eq s))
end Go.Proofs.YtpdkoaklobnegaaGreat
namespace Go.Proofs.YtpdkoaklobnegaaGreat
open Go.Eng
set_option maxRecDepth 100000
set_option maxHeartbeats 1000000
set_option linter.unusedVariables false
set_option linter.unusedSimpArgs false
attribute [local irreducible] un jn chk fld ld1 ldA st1 ixS lnS lnT bld cvI cvF ixA bsS apS rdV rdW grdW eW eV eU eC eF gE condW fin pickN nilN binS vS lp0 lp1 lp2 lp3 lp4 lp5 lp6 lp7 nx0 nx1 nx2 nx3 nx4 nx5 nx6 nx7
def rising (l : List BA) : Bool := chain goodKey tlt none l
def rises (l : List BA) : Bool := rising l && decide ((l.length : Int) ≤ 16)
theorem d_mvcc_rise {w : World} {X : XS} {a : Value} {xs : List BA} (ha : Sl w X 1 a (xs.map S1)) :
    Ct Tryz.prog 322 #[a] w X nX fun v _ _ => v = B (rises xs) := by
  intro w0 hk
  replace ha := ha.mv hk.mvo
  have hla := ha.len'
  apply ok_mvcc_rise; unfold vc_mvcc_rise
  have hs := Since.init w0
  repeat' first | ((with_reducible apply m_lnS); (· (first | assumption | exact Own.sl (by assumption))); (· kernel_rfl))
  refine lp1_of (fun n a w X => ∃ i : Nat, a = I (i : Nat) ∧ n = (xs).length - i ∧ i ≤ (xs).length ∧ Since (old w0) w0 X w ∧ chain goodKey tlt none xs = chain goodKey tlt (prevOf xs i) (xs.drop i)) (xs).length ⟨0, rfl, rfl, Nat.zero_le _, hs, by simp [prevOf]⟩ ?_
  rintro n a w X ⟨i, rfl, rfl, hi, hs, hw⟩
  rcases at_or (xs) i with ⟨hlt, x, hx, hd⟩ | ⟨hge, hd⟩
  · rcases at_prev hlt with ⟨h0, hp⟩ | ⟨h0, y, hy, hp⟩ <;> rw [hp, hd, chain] at hw <;> clear hd
    · repeat' first | ((with_reducible refine r_lssT ?_ ?_); (· omega)) | ((with_reducible refine r_gtrF ?_ ?_); (· omega)) | with_reducible (first | apply condW_T | apply condW_F | apply un_selF | apply un_selTF | apply un_selFT | apply un_selU | apply grdV_onF | apply grdW_onF | apply grdW_offT | apply grdW_offF | apply grdW_U | apply rdW_pickT | apply rdW_pickF | apply r_notT | apply r_notF) | ((with_reducible apply m_ld1); (· (first | assumption | exact RowIs.cells (by assumption))); (· (first | exact mv0 | exact mv1 (by assumption) | exact mv2 (by assumption) (by assumption))); (· kernel_rfl); (· rfl)) | ((with_reducible apply m_ixS); (· (first | assumption | exact Own.sl (by assumption))); (try (case hz => rfl)); (case hr => first | assumption | exact List.getElem?_eq_getElem (by omega)); (try (case hz => omega)); (case ht => kernel_rfl); (case hs => kernel_rfl); intro _ _ _) | ((with_reducible apply r_add); (· omega); (· omega)) | ((with_reducible refine r_pureB (c_datum_Key _) ?_ hs.has ?_ ?_); (· kernel_rfl); all_goals (intro _ w X hs1; replace hs := hs.trans hs1)) | ((first | (with_reducible refine fin_ret0 hs ?_) | (with_reducible refine fin_ret0 (hs0.trans hs) ?_)); intro wa hk; simp_all [rises, rising, chain]) | ((with_reducible refine nx1_of ((xs).length - (i + 1)) ?_ ?_); (· omega); exact ⟨i + 1, by simp, rfl, by omega, hs, by rw [hw, prevOf_succ hx]; simp [*]⟩)
    · repeat' first | ((with_reducible refine r_lssT ?_ ?_); (· omega)) | ((with_reducible refine r_gtrT ?_ ?_); (· omega)) | with_reducible (first | apply condW_T | apply condW_F | apply un_selT | apply un_selF | apply un_selTF | apply un_selU | apply grdV_onT | apply grdV_onF | apply grdW_onF | apply grdW_offF | apply grdW_U | apply rdW_pickT | apply rdW_pickF | apply r_notT | apply r_notF) | (with_reducible apply r_sgeq <;> intro _) | ((with_reducible apply m_ld1); (· (first | assumption | exact RowIs.cells (by assumption))); (· (first | exact mv0 | exact mv1 (by assumption) | exact mv2 (by assumption) (by assumption))); (· kernel_rfl); (· rfl)) | ((with_reducible apply m_ixS); (· (first | assumption | exact Own.sl (by assumption))); (try (case hz => rfl)); (case hr => first | assumption | exact List.getElem?_eq_getElem (by omega)); (try (case hz => omega)); (case ht => kernel_rfl); (case hs => kernel_rfl); intro _ _ _) | ((with_reducible apply r_add); (· omega); (· omega)) | ((with_reducible apply r_sub); (· omega); (· omega)) | ((with_reducible refine r_pureB (c_datum_Key _) ?_ hs.has ?_ ?_); (· kernel_rfl); all_goals (intro _ w X hs1; replace hs := hs.trans hs1)) | ((first | (with_reducible refine fin_ret0 hs ?_) | (with_reducible refine fin_ret0 (hs0.trans hs) ?_)); intro wa hk; simp_all [rises, rising, chain]) | ((with_reducible refine nx1_of ((xs).length - (i + 1)) ?_ ?_); (· omega); exact ⟨i + 1, by simp, rfl, by omega, hs, by rw [hw, prevOf_succ hx]; simp [*]⟩)
  · repeat' first | ((with_reducible refine r_lssF ?_ ?_); (· omega)) | with_reducible apply condW_F | (with_reducible apply r_leq <;> intro _) | ((with_reducible apply m_lnS); (· (first | assumption | exact Own.sl (by assumption))); (· kernel_rfl)) | ((first | (with_reducible refine fin_ret0 hs ?_) | (with_reducible refine fin_ret0 (hs0.trans hs) ?_)); intro wa hk; simp_all [rises, rising, chain] <;> omega)
theorem d_mvcc_writeKeys {w : World} {X : XS} {a : Value} {xs : List KV} (ha : Sl w X 4 a (xs.map KV.l)) (hb : xs.length ≤ 2 ^ 40) :
    Ct Tryz.prog 323 #[a] w X nX fun v wa w' => Own w' (made wa w') wa.heap.size 9 1 v ((xs.map (·.key)).map S1) := by
  intro w0 hk
  replace ha := ha.mv hk.mvo
  have hla := ha.len'
  apply ok_mvcc_writeKeys; unfold vc_mvcc_writeKeys
  have hs := Since.init w0
  repeat' first | ((with_reducible apply m_lnS); (· (first | assumption | exact Own.sl (by assumption))); (· kernel_rfl))
  refine lp2_of (fun n a b w X => ∃ i : Nat, a = I i ∧ n = xs.length - i ∧ i ≤ xs.length ∧ Since (old w0) w0 X w ∧ Own w X w0.heap.size 9 1 b (((xs.take i).map (·.key)).map S1)) xs.length ⟨0, rfl, rfl, Nat.zero_le _, hs, Own.nil _ _ _ _ _⟩ ?_
  rintro n a b w X ⟨i, rfl, rfl, hi, hs, ho⟩
  rcases at_or (xs) i with ⟨hlt, x, hx, hd⟩ | ⟨hge, hd⟩
  · repeat' first | ((with_reducible refine r_lssT ?_ ?_); (· omega)) | with_reducible apply condW_T | ((with_reducible apply un_cell); (· rfl)) | with_reducible apply un_box | ((with_reducible apply m_ldA); (· (first | assumption | exact RowIs.cells (by assumption))); (· (first | exact mv0 | exact mv1 (by assumption) | exact mv2 (by assumption) (by assumption))); (· kernel_rfl); (· rfl)) | ((with_reducible apply m_ixS); (· (first | assumption | exact Own.sl (by assumption))); (try (case hz => rfl)); (case hr => first | assumption | exact List.getElem?_eq_getElem (by omega)); (try (case hz => omega)); (case ht => kernel_rfl); (case hs => kernel_rfl); intro _ _ _) | ((with_reducible apply m_chkc); (case h => (repeat' first | with_reducible apply all_one_cons | with_reducible exact all_one_nil | assumption | rfl | exact Sl.one (by assumption) | exact Rws.one (by assumption) | exact Sl.one (Own.sl (by assumption))))) | ((with_reducible apply chk_T); (· first | rfl | assumption | exact Sl.one (by assumption) | exact Rws.one (by assumption) | exact Sl.one (Own.sl (by assumption)))) | ((with_reducible apply r_add); (· omega); (· omega)) | ((with_reducible apply m_app1s); (case own => first | assumption | exact Own.since (by assumption) (by assumption)); (case hs => assumption); (case h0 => first | exact fun _ h => h | exact hs0.has); (case he => kernel_rfl); (case hk => rfl); (case ho => first | rfl | assumption); (case hb => (simp only [List.length_map, List.length_take, List.length_append, List.length_cons, List.length_nil]; omega)); (case hl => (simp only [List.length_map, List.length_take, List.length_append, List.length_cons, List.length_nil]; omega)); intro acc w X hs1 ho hc hat; replace hs := hs1) | ((with_reducible refine nx2_of ((xs).length - (i + 1)) ?_ ?_); (· omega); exact ⟨i + 1, by simp, rfl, by omega, hs, by rw [List.take_add_one, hx]; simpa using ho⟩)
  · repeat' first | ((with_reducible refine r_lssF ?_ ?_); (· omega)) | with_reducible apply condW_F | ((first | (with_reducible refine fin_ret0 hs ?_) | (with_reducible refine fin_ret0 (hs0.trans hs) ?_)); intro wa hk; (rw [List.take_of_length_le hge] at ho; exact (ho.kp hk).tight))
def Pend.err (p : Pend) : Int :=
  if !p.txn.may then 4 else if !p.stamp.may || decide (p.stamp = .zero) then 17
  else if !rises p.reads || !rises (p.writes.map (·.key)) then 4
  else if p.writes.all (·.val.may) then 0 else 4
theorem d_mvcc_PendingMay {w : World} {X : XS} {p : Pend} {vr vw : Value} (h1 : Sl w X 1 vr (p.reads.map S1)) (h2 : Sl w X 4 vw (p.writes.map KV.l)) (hb : p.writes.length ≤ 2 ^ 40) :
    Ct Tryz.prog 250 #[p.v vr vw] w X nX fun v _ _ => v = I p.err := by
  intro w0 hk
  replace h1 := h1.mv hk.mvo
  replace h2 := h2.mv hk.mvo
  have hla := h2.len'
  apply ok_mvcc_PendingMay; unfold vc_mvcc_PendingMay
  have hs := Since.init w0
  repeat' first | with_reducible (first | apply condW_T | apply condW_F | apply un_selF | apply un_selTF | apply grdV_onF | apply grdW_offF | apply rdW_pickT | apply rdW_pickF | apply gE_F | apply gE_TF | apply r_notT | apply r_notF) | ((with_reducible apply m_lnS); (· (first | assumption | exact Own.sl (by assumption))); (· kernel_rfl)) | ((with_reducible apply r_bld); (· kernel_rfl)) | ((with_reducible refine r_eqS0 _ ?_ ?_ ?_); (· kernel_rfl); all_goals intros) | with_reducible apply jn_of | ((with_reducible refine r_pureB (c_hlc_May _) ?_ hs.has ?_ ?_); (· kernel_rfl); all_goals (intro _ w X hs1; replace hs := hs.trans hs1)) | ((with_reducible refine r_pureB (c_mvcc_TxnMay _) ?_ hs.has ?_ ?_); (· kernel_rfl); all_goals (intro _ w X hs1; replace hs := hs.trans hs1)) | ((first | (with_reducible refine fin_ret0 hs ?_) | (with_reducible refine fin_ret0 (hs0.trans hs) ?_)); intro wa hk; simp_all [Pend.err]) | (refine r_ct0B (d_mvcc_rise  (by first | assumption | exact Sl.mv (by assumption) (by (first | exact mv0 | exact mv1 (by assumption) | exact mv2 (by assumption) (by assumption))) | exact Pends.mv (by assumption) (by (first | exact mv0 | exact mv1 (by assumption) | exact mv2 (by assumption) (by assumption))) | exact Hists.mv (by assumption) (by (first | exact mv0 | exact mv1 (by assumption) | exact mv2 (by assumption) (by assumption))) | exact Rec.at.mv (by assumption) (by (first | exact mv0 | exact mv1 (by assumption) | exact mv2 (by assumption) (by assumption))) | exact Own.sl (by assumption) | exact Cells.mv (by assumption) (by (first | exact mv0 | exact mv1 (by assumption) | exact mv2 (by assumption) (by assumption))) | exact Cells.mv (RowIs.cells (by assumption)) (by (first | exact mv0 | exact mv1 (by assumption) | exact mv2 (by assumption) (by assumption))) | omega)) (by kernel_rfl) hs.has ?_ ?_ <;> (intro _ w X hs1; replace hs := hs.trans hs1)) | (refine r_ct0 (d_mvcc_writeKeys  (by first | assumption | exact Sl.mv (by assumption) (by (first | exact mv0 | exact mv1 (by assumption) | exact mv2 (by assumption) (by assumption))) | exact Pends.mv (by assumption) (by (first | exact mv0 | exact mv1 (by assumption) | exact mv2 (by assumption) (by assumption))) | exact Hists.mv (by assumption) (by (first | exact mv0 | exact mv1 (by assumption) | exact mv2 (by assumption) (by assumption))) | exact Rec.at.mv (by assumption) (by (first | exact mv0 | exact mv1 (by assumption) | exact mv2 (by assumption) (by assumption))) | exact Own.sl (by assumption) | exact Cells.mv (by assumption) (by (first | exact mv0 | exact mv1 (by assumption) | exact mv2 (by assumption) (by assumption))) | exact Cells.mv (RowIs.cells (by assumption)) (by (first | exact mv0 | exact mv1 (by assumption) | exact mv2 (by assumption) (by assumption))) | omega) (by first | assumption | exact Sl.mv (by assumption) (by (first | exact mv0 | exact mv1 (by assumption) | exact mv2 (by assumption) (by assumption))) | exact Pends.mv (by assumption) (by (first | exact mv0 | exact mv1 (by assumption) | exact mv2 (by assumption) (by assumption))) | exact Hists.mv (by assumption) (by (first | exact mv0 | exact mv1 (by assumption) | exact mv2 (by assumption) (by assumption))) | exact Rec.at.mv (by assumption) (by (first | exact mv0 | exact mv1 (by assumption) | exact mv2 (by assumption) (by assumption))) | exact Own.sl (by assumption) | exact Cells.mv (by assumption) (by (first | exact mv0 | exact mv1 (by assumption) | exact mv2 (by assumption) (by assumption))) | exact Cells.mv (RowIs.cells (by assumption)) (by (first | exact mv0 | exact mv1 (by assumption) | exact mv2 (by assumption) (by assumption))) | omega)) (by kernel_rfl) hs.has ?_; rintro v1 wa w X ho1 hle hin hs1; have hlo := Nat.le_trans hs.kp.size hle; replace hs := hs.trans hs1; replace ho1 := ho1.up hin hlo)
  refine lp1_of (fun n a w X => ∃ i : Nat, a = I (i : Nat) ∧ n = (p.writes).length - i ∧ i ≤ (p.writes).length ∧ Since (old w0) w0 X w ∧ p.writes.all (·.val.may) = (p.writes.drop i).all (·.val.may)) (p.writes).length ⟨0, rfl, rfl, Nat.zero_le _, hs, by simp⟩ ?_
  rintro n a w X ⟨i, rfl, rfl, hi, hs, hw⟩
  rcases at_or (p.writes) i with ⟨hlt, x, hx, hd⟩ | ⟨hge, hd⟩
  · repeat' first | ((with_reducible refine r_lssT ?_ ?_); (· omega)) | with_reducible (first | apply condW_T | apply condW_F) | ((with_reducible apply m_sub); (· (simp only [Value.cells, nq1, nq2, nq3, nq4, nq5, nq6, setL, nq7, nq8, nq9, nq0, Nat.reduceAdd, Nat.zero_add]; try rfl))) | with_reducible (first | apply un_box | apply r_notT | apply r_notF) | ((with_reducible apply m_ldA); (· (first | assumption | exact RowIs.cells (by assumption))); (· (first | exact mv0 | exact mv1 (by assumption) | exact mv2 (by assumption) (by assumption))); (· kernel_rfl); (· rfl)) | ((with_reducible apply m_ixS); (· (first | assumption | exact Own.sl (by assumption))); (try (case hz => rfl)); (case hr => first | assumption | exact List.getElem?_eq_getElem (by omega)); (try (case hz => omega)); (case ht => kernel_rfl); (case hs => kernel_rfl); intro _ _ _) | ((with_reducible apply m_chkc); (case h => (repeat' first | with_reducible apply all_one_cons | with_reducible exact all_one_nil | assumption | rfl | exact Sl.one (by assumption) | exact Rws.one (by assumption) | exact Sl.one (Own.sl (by assumption))))) | ((with_reducible apply chk_T); (· first | rfl | assumption | exact Sl.one (by assumption) | exact Rws.one (by assumption) | exact Sl.one (Own.sl (by assumption)))) | ((with_reducible apply r_add); (· omega); (· omega)) | ((with_reducible refine r_pureB (c_datum_May _) ?_ hs.has ?_ ?_); (· kernel_rfl); all_goals (intro _ w X hs1; replace hs := hs.trans hs1)) | ((first | (with_reducible refine fin_ret0 hs ?_) | (with_reducible refine fin_ret0 (hs0.trans hs) ?_)); intro wa hk; simp_all [Pend.err]) | ((with_reducible refine nx1_of ((p.writes).length - (i + 1)) ?_ ?_); (· omega); exact ⟨i + 1, by simp, rfl, by omega, hs, by rw [hw, hd]; simp [*]⟩)
  · repeat' first | ((with_reducible refine r_lssF ?_ ?_); (· omega)) | with_reducible apply condW_F | ((first | (with_reducible refine fin_ret0 hs ?_) | (with_reducible refine fin_ret0 (hs0.trans hs) ?_)); intro wa hk; simp_all [Pend.err])
def partsOk (l : List Int) : Bool := chain (fun n => decide (n ≥ 1) && decide (n ≤ 12)) (fun a b => decide (a < b)) none l && decide (l ≠ [])
theorem d_recs_Parts {w : World} {X : XS} {a : Value} {xs : List Int} (ha : Sl w X 1 a (xs.map I1)) :
    Ct Tryz.prog 243 #[a] w X nX fun v _ _ => v = B (partsOk xs) := by
  intro w0 hk
  replace ha := ha.mv hk.mvo
  have hla := ha.len'
  apply ok_recs_Parts; unfold vc_recs_Parts
  have hs := Since.init w0
  repeat' first | ((with_reducible apply m_lnS); (· (first | assumption | exact Own.sl (by assumption))); (· kernel_rfl))
  refine lp1_of (fun n a w X => ∃ i : Nat, a = I (i : Nat) ∧ n = (xs).length - i ∧ i ≤ (xs).length ∧ Since (old w0) w0 X w ∧ chain (fun n => decide (n ≥ 1) && decide (n ≤ 12)) (fun a b => decide (a < b)) none xs = chain (fun n => decide (n ≥ 1) && decide (n ≤ 12)) (fun a b => decide (a < b)) (prevOf xs i) (xs.drop i)) (xs).length ⟨0, rfl, rfl, Nat.zero_le _, hs, by simp [prevOf]⟩ ?_
  rintro n a w X ⟨i, rfl, rfl, hi, hs, hw⟩
  rcases at_or (xs) i with ⟨hlt, x, hx, hd⟩ | ⟨hge, hd⟩
  · rcases at_prev hlt with ⟨h0, hp⟩ | ⟨h0, y, hy, hp⟩ <;> rw [hp, hd, chain] at hw <;> clear hd
    · repeat' first | ((with_reducible refine r_lssT ?_ ?_); (· omega)) | ((with_reducible refine r_gtrF ?_ ?_); (· omega)) | with_reducible (first | apply condW_T | apply condW_F | apply un_selF | apply un_selTF | apply un_selFT | apply un_selU | apply grdV_onF | apply grdW_onF | apply grdW_offT | apply grdW_offF | apply grdW_U | apply rdW_pickT | apply rdW_pickF) | (with_reducible apply r_lss <;> intro _) | (with_reducible apply r_gtr <;> intro _) | ((with_reducible apply m_ld1); (· (first | assumption | exact RowIs.cells (by assumption))); (· (first | exact mv0 | exact mv1 (by assumption) | exact mv2 (by assumption) (by assumption))); (· kernel_rfl); (· rfl)) | ((with_reducible apply m_ixS); (· (first | assumption | exact Own.sl (by assumption))); (try (case hz => rfl)); (case hr => first | assumption | exact List.getElem?_eq_getElem (by omega)); (try (case hz => omega)); (case ht => kernel_rfl); (case hs => kernel_rfl); intro _ _ _) | ((with_reducible apply r_add); (· omega); (· omega)) | ((first | (with_reducible refine fin_ret0 hs ?_) | (with_reducible refine fin_ret0 (hs0.trans hs) ?_)); intro wa hk; (simp_all [partsOk, chain] <;> omega)) | ((with_reducible refine nx1_of ((xs).length - (i + 1)) ?_ ?_); (· omega); exact ⟨i + 1, by simp, rfl, by omega, hs, by rw [hw, prevOf_succ hx]; simp_all <;> omega⟩)
    · repeat' first | ((with_reducible refine r_lssT ?_ ?_); (· omega)) | ((with_reducible refine r_gtrT ?_ ?_); (· omega)) | with_reducible (first | apply condW_T | apply condW_F | apply un_selT | apply un_selF | apply un_selTF | apply un_selU | apply grdV_onT | apply grdV_onF | apply grdW_onF | apply grdW_offF | apply grdW_U | apply rdW_pickT | apply rdW_pickF) | (with_reducible apply r_lss <;> intro _) | (with_reducible apply r_gtr <;> intro _) | (with_reducible apply r_geq <;> intro _) | ((with_reducible apply m_ld1); (· (first | assumption | exact RowIs.cells (by assumption))); (· (first | exact mv0 | exact mv1 (by assumption) | exact mv2 (by assumption) (by assumption))); (· kernel_rfl); (· rfl)) | ((with_reducible apply m_ixS); (· (first | assumption | exact Own.sl (by assumption))); (try (case hz => rfl)); (case hr => first | assumption | exact List.getElem?_eq_getElem (by omega)); (try (case hz => omega)); (case ht => kernel_rfl); (case hs => kernel_rfl); intro _ _ _) | ((with_reducible apply r_add); (· omega); (· omega)) | ((with_reducible apply r_sub); (· omega); (· omega)) | ((first | (with_reducible refine fin_ret0 hs ?_) | (with_reducible refine fin_ret0 (hs0.trans hs) ?_)); intro wa hk; (simp_all [partsOk, chain] <;> omega)) | ((with_reducible refine nx1_of ((xs).length - (i + 1)) ?_ ?_); (· omega); exact ⟨i + 1, by simp, rfl, by omega, hs, by rw [hw, prevOf_succ hx]; simp_all <;> omega⟩)
  · repeat' first | ((with_reducible refine r_lssF ?_ ?_); (· omega)) | with_reducible apply condW_F | (with_reducible apply r_gtr <;> intro _) | ((with_reducible apply m_lnS); (· (first | assumption | exact Own.sl (by assumption))); (· kernel_rfl)) | ((first | (with_reducible refine fin_ret0 hs ?_) | (with_reducible refine fin_ret0 (hs0.trans hs) ?_)); intro wa hk; (simp_all [partsOk, chain] <;> grind))
def pairsOk (l : List KV) : Bool := chain (fun x => goodKey x.key && x.val.may && decide (x.val.kind ≠ 0)) (fun a b => tlt a.key b.key) none l
theorem d_recs_pairs {w : World} {X : XS} {a : Value} {xs : List KV} (ha : Sl w X 4 a (xs.map KV.l)) :
    Ct Tryz.prog 303 #[a] w X nX fun v _ _ => v = B (pairsOk xs) := by
  intro w0 hk
  replace ha := ha.mv hk.mvo
  have hla := ha.len'
  apply ok_recs_pairs; unfold vc_recs_pairs
  have hs := Since.init w0
  repeat' first | ((with_reducible apply m_lnS); (· (first | assumption | exact Own.sl (by assumption))); (· kernel_rfl))
  refine lp1_of (fun n a w X => ∃ i : Nat, a = I (i : Nat) ∧ n = (xs).length - i ∧ i ≤ (xs).length ∧ Since (old w0) w0 X w ∧ pairsOk xs = chain (fun x => goodKey x.key && x.val.may && decide (x.val.kind ≠ 0)) (fun a b => tlt a.key b.key) (prevOf xs i) (xs.drop i)) (xs).length ⟨0, rfl, rfl, Nat.zero_le _, hs, by simp [prevOf, pairsOk]⟩ ?_
  rintro n a w X ⟨i, rfl, rfl, hi, hs, hw⟩
  rcases at_or (xs) i with ⟨hlt, x, hx, hd⟩ | ⟨hge, hd⟩
  · rcases at_prev hlt with ⟨h0, hp⟩ | ⟨h0, y, hy, hp⟩ <;> rw [hp, hd, chain] at hw <;> clear hd
    · repeat' first | ((with_reducible refine r_lssT ?_ ?_); (· omega)) | ((with_reducible refine r_gtrF ?_ ?_); (· omega)) | with_reducible (first | apply condW_T | apply condW_F) | ((with_reducible apply un_cell); (· rfl)) | ((with_reducible apply m_sub); (· (simp only [Value.cells, nq1, nq2, nq3, nq4, nq5, nq6, setL, nq7, nq8, nq9, nq0, Nat.reduceAdd, Nat.zero_add]; try rfl))) | with_reducible (first | apply un_box | apply un_selF | apply un_selTF | apply un_selFT | apply un_selU | apply grdV_onF | apply grdW_onF | apply grdW_offT | apply grdW_offF | apply grdW_U | apply rdW_pickT | apply rdW_pickF | apply gE_F | apply gE_TF | apply r_notT | apply r_notF) | (with_reducible apply r_eql <;> intro _) | ((with_reducible apply m_ldA); (· (first | assumption | exact RowIs.cells (by assumption))); (· (first | exact mv0 | exact mv1 (by assumption) | exact mv2 (by assumption) (by assumption))); (· kernel_rfl); (· rfl)) | ((with_reducible apply m_ixS); (· (first | assumption | exact Own.sl (by assumption))); (try (case hz => rfl)); (case hr => first | assumption | exact List.getElem?_eq_getElem (by omega)); (try (case hz => omega)); (case ht => kernel_rfl); (case hs => kernel_rfl); intro _ _ _) | ((with_reducible apply m_chkc); (case h => (repeat' first | with_reducible apply all_one_cons | with_reducible exact all_one_nil | assumption | rfl | exact Sl.one (by assumption) | exact Rws.one (by assumption) | exact Sl.one (Own.sl (by assumption))))) | ((with_reducible apply chk_T); (· first | rfl | assumption | exact Sl.one (by assumption) | exact Rws.one (by assumption) | exact Sl.one (Own.sl (by assumption)))) | ((with_reducible apply r_add); (· omega); (· omega)) | with_reducible apply jn_of | ((with_reducible refine r_pureB (c_datum_May _) ?_ hs.has ?_ ?_); (· kernel_rfl); all_goals (intro _ w X hs1; replace hs := hs.trans hs1)) | ((with_reducible refine r_pureB (c_datum_Key _) ?_ hs.has ?_ ?_); (· kernel_rfl); all_goals (intro _ w X hs1; replace hs := hs.trans hs1)) | ((first | (with_reducible refine fin_ret0 hs ?_) | (with_reducible refine fin_ret0 (hs0.trans hs) ?_)); intro wa hk; (simp_all [chain] <;> omega)) | ((with_reducible refine nx1_of ((xs).length - (i + 1)) ?_ ?_); (· omega); exact ⟨i + 1, by simp, rfl, by omega, hs, by rw [hw, prevOf_succ hx]; simp_all <;> omega⟩)
    · repeat' first | ((with_reducible refine r_lssT ?_ ?_); (· omega)) | ((with_reducible refine r_gtrT ?_ ?_); (· omega)) | with_reducible (first | apply condW_T | apply condW_F) | ((with_reducible apply un_cell); (· rfl)) | ((with_reducible apply m_sub); (· (simp only [Value.cells, nq1, nq2, nq3, nq4, nq5, nq6, setL, nq7, nq8, nq9, nq0, Nat.reduceAdd, Nat.zero_add]; try rfl))) | with_reducible (first | apply un_box | apply un_selT | apply un_selF | apply un_selTF | apply un_selU | apply grdV_onT | apply grdV_onF | apply grdW_onF | apply grdW_offF | apply grdW_U | apply rdW_pickT | apply rdW_pickF | apply gE_F | apply gE_TF | apply r_notT | apply r_notF) | (with_reducible apply r_eql <;> intro _) | (with_reducible apply r_sgeq <;> intro _) | ((with_reducible apply m_fld1); (· (first | assumption | exact RowIs.cells (by assumption))); (· kernel_rfl); (· rfl); intro _ _ _) | ((with_reducible apply m_ld1); (· (first | assumption | exact RowIs.cells (by assumption))); (· (first | exact mv0 | exact mv1 (by assumption) | exact mv2 (by assumption) (by assumption))); (· kernel_rfl); (· rfl)) | ((with_reducible apply m_ldA); (· (first | assumption | exact RowIs.cells (by assumption))); (· (first | exact mv0 | exact mv1 (by assumption) | exact mv2 (by assumption) (by assumption))); (· kernel_rfl); (· rfl)) | ((with_reducible apply m_ixS); (· (first | assumption | exact Own.sl (by assumption))); (try (case hz => rfl)); (case hr => first | assumption | exact List.getElem?_eq_getElem (by omega)); (try (case hz => omega)); (case ht => kernel_rfl); (case hs => kernel_rfl); intro _ _ _) | ((with_reducible apply m_chkc); (case h => (repeat' first | with_reducible apply all_one_cons | with_reducible exact all_one_nil | assumption | rfl | exact Sl.one (by assumption) | exact Rws.one (by assumption) | exact Sl.one (Own.sl (by assumption))))) | ((with_reducible apply chk_T); (· first | rfl | assumption | exact Sl.one (by assumption) | exact Rws.one (by assumption) | exact Sl.one (Own.sl (by assumption)))) | ((with_reducible apply r_add); (· omega); (· omega)) | ((with_reducible apply r_sub); (· omega); (· omega)) | with_reducible apply jn_of | ((with_reducible refine r_pureB (c_datum_May _) ?_ hs.has ?_ ?_); (· kernel_rfl); all_goals (intro _ w X hs1; replace hs := hs.trans hs1)) | ((with_reducible refine r_pureB (c_datum_Key _) ?_ hs.has ?_ ?_); (· kernel_rfl); all_goals (intro _ w X hs1; replace hs := hs.trans hs1)) | ((first | (with_reducible refine fin_ret0 hs ?_) | (with_reducible refine fin_ret0 (hs0.trans hs) ?_)); intro wa hk; (simp_all [chain] <;> omega)) | ((with_reducible refine nx1_of ((xs).length - (i + 1)) ?_ ?_); (· omega); exact ⟨i + 1, by simp, rfl, by omega, hs, by rw [hw, prevOf_succ hx]; simp_all <;> omega⟩)
  · repeat' first | ((with_reducible refine r_lssF ?_ ?_); (· omega)) | with_reducible apply condW_F | ((first | (with_reducible refine fin_ret0 hs ?_) | (with_reducible refine fin_ret0 (hs0.trans hs) ?_)); intro wa hk; (simp_all [chain] <;> grind))
end Go.Proofs.YtpdkoaklobnegaaGreat
namespace Go.Proofs.YtpdkoaklobnegaaGreat
open Go.Eng
set_option maxRecDepth 100000
set_option maxHeartbeats 1000000
set_option linter.unusedVariables false
set_option linter.unusedSimpArgs false
attribute [local irreducible] un jn chk fld ld1 ldA st1 ixS lnS lnT bld cvI cvF ixA bsS apS rdV rdW grdW eW eV eU eC eF gE condW fin pickN nilN binS vS lp0 lp1 lp2 lp3 lp4 lp5 lp6 lp7 nx0 nx1 nx2 nx3 nx4 nx5 nx6 nx7
abbrev Rng.zero : Rng := ⟨0, 0, 0, 0⟩
abbrev State.zero : State := ⟨.zero, .zero, .zero, [], []⟩
def State.isZero (s : State) : Bool := decide (s.range = .zero) && decide (s.floor = .zero) && decide (s.closed = .zero) && decide (s.hists = []) && decide (s.pend = [])
theorem d_recs_zeroState {w : World} {X : XS} {s : State} {vh vp : Value} (h1 : Hists w X vh s.hists) (h2 : Pends w X vp s.pend) :
    Ct Tryz.prog 298 #[s.v vh vp] w X nX fun v _ _ => v = B s.isZero := by
  intro w0 hk
  replace h1 := h1.mv hk.mvo
  replace h2 := h2.mv hk.mvo
  apply ok_recs_zeroState; unfold vc_recs_zeroState
  have hs := Since.init w0
  repeat' first | with_reducible (first | apply un_selT | apply un_selFT | apply grdV_onT | apply grdW_offT | apply rdW_pickT | apply rdW_pickF | apply gE_T | apply gE_FT) | (with_reducible apply r_eql <;> intro _) | ((with_reducible apply m_lnR); (· assumption); (· kernel_rfl)) | ((with_reducible apply r_bld); (· kernel_rfl)) | ((with_reducible refine r_eqS0 _ ?_ ?_ ?_); (· kernel_rfl); all_goals intros) | with_reducible apply jn_of | ((first | (with_reducible refine fin_ret0 hs ?_) | (with_reducible refine fin_ret0 (hs0.trans hs) ?_)); intro wa hk; (simp_all [State.isZero, Rng.ext_iff])) | ((with_reducible refine eC_val (run_bits _) hs.has ?_); intro w X hs1; replace hs := hs.trans hs1)
def Rec.isZero (r : Rec) : Bool := decide (r.txn = .zero) && decide (r.stamp = .zero) && decide (r.prev = .zero) && !r.commit && decide (r.n = 0) && decide (r.point = 0) &&
  decide (r.reads = []) && decide (r.writes = []) && decide (r.parts = []) && decide (r.pairs = []) && r.state.isZero
theorem d_recs_zero {w : World} {X : XS} {r : Rec} {vr vw vp vq vh vd : Value} (h : r.at w X vr vw vp vq vh vd) :
    Ct Tryz.prog 223 #[r.v vr vw vp vq vh vd] w X nX fun v _ _ => v = B r.isZero := by
  intro w0 hk
  obtain ⟨h1, h2, h3, h4, h5, h6⟩ := h.mv hk.mvo
  apply ok_recs_zero; unfold vc_recs_zero
  have hs := Since.init w0
  cases hc : r.commit <;>
  repeat' first | with_reducible (first | apply un_selT | apply un_selFT | apply grdV_onT | apply grdW_offT | apply rdW_pickT | apply rdW_pickF | apply gE_T | apply gE_FT | apply r_notT | apply r_notF) | (with_reducible apply r_eql <;> intro _) | ((with_reducible apply m_lnS); (· (first | assumption | exact Own.sl (by assumption))); (· kernel_rfl)) | ((with_reducible apply r_bld); (· kernel_rfl)) | ((with_reducible refine r_eqS0 _ ?_ ?_ ?_); (· kernel_rfl); all_goals intros) | ((with_reducible refine r_eqT0 _ ?_ ?_ ?_); (· kernel_rfl); all_goals intros) | with_reducible apply jn_of | ((first | (with_reducible refine fin_ret0 hs ?_) | (with_reducible refine fin_ret0 (hs0.trans hs) ?_)); intro wa hk; (simp_all [Rec.isZero])) | ((with_reducible refine eC_val (run_bits _) hs.has ?_); intro w X hs1; replace hs := hs.trans hs1) | (refine r_ct0B (d_recs_zeroState  (s := r.state) (by first | assumption | exact Sl.mv (by assumption) (by (first | exact mv0 | exact mv1 (by assumption) | exact mv2 (by assumption) (by assumption))) | exact Pends.mv (by assumption) (by (first | exact mv0 | exact mv1 (by assumption) | exact mv2 (by assumption) (by assumption))) | exact Hists.mv (by assumption) (by (first | exact mv0 | exact mv1 (by assumption) | exact mv2 (by assumption) (by assumption))) | exact Rec.at.mv (by assumption) (by (first | exact mv0 | exact mv1 (by assumption) | exact mv2 (by assumption) (by assumption))) | exact Own.sl (by assumption) | exact Cells.mv (by assumption) (by (first | exact mv0 | exact mv1 (by assumption) | exact mv2 (by assumption) (by assumption))) | exact Cells.mv (RowIs.cells (by assumption)) (by (first | exact mv0 | exact mv1 (by assumption) | exact mv2 (by assumption) (by assumption))) | omega) (by first | assumption | exact Sl.mv (by assumption) (by (first | exact mv0 | exact mv1 (by assumption) | exact mv2 (by assumption) (by assumption))) | exact Pends.mv (by assumption) (by (first | exact mv0 | exact mv1 (by assumption) | exact mv2 (by assumption) (by assumption))) | exact Hists.mv (by assumption) (by (first | exact mv0 | exact mv1 (by assumption) | exact mv2 (by assumption) (by assumption))) | exact Rec.at.mv (by assumption) (by (first | exact mv0 | exact mv1 (by assumption) | exact mv2 (by assumption) (by assumption))) | exact Own.sl (by assumption) | exact Cells.mv (by assumption) (by (first | exact mv0 | exact mv1 (by assumption) | exact mv2 (by assumption) (by assumption))) | exact Cells.mv (RowIs.cells (by assumption)) (by (first | exact mv0 | exact mv1 (by assumption) | exact mv2 (by assumption) (by assumption))) | omega)) (by kernel_rfl) hs.has ?_ ?_ <;> (intro _ w X hs1; replace hs := hs.trans hs1))
def Rec.strip (r : Rec) : Rec × Bool :=
  if r.kind = 1 then ({ r with state := .zero }, true)
  else if r.kind = 2 ∨ r.kind = 7 ∨ r.kind = 8 then ({ r with n := 0 }, true)
  else if r.kind = 3 then ({ r with txn := .zero, stamp := .zero, reads := [], writes := [], parts := [] }, true)
  else if r.kind = 4 then ({ r with txn := .zero, commit := false, stamp := .zero }, true)
  else if r.kind = 5 then ({ r with stamp := .zero }, true)
  else if r.kind = 6 then ({ r with point := 0, n := 0, stamp := .zero }, true)
  else if r.kind = 9 then ({ r with txn := .zero, stamp := .zero, parts := [] }, true)
  else if r.kind = 10 then ({ r with txn := .zero }, true)
  else if r.kind = 11 then ({ r with prev := .zero, stamp := .zero, txn := .zero, writes := [] }, true)
  else if r.kind = 12 then ({ r with stamp := .zero, pairs := [] }, true)
  else (r, false)
theorem d_recs_without {w : World} {X : XS} {r : Rec} {vr vw vp vq vh vd : Value} (h : r.at w X vr vw vp vq vh vd) :
    Ct Tryz.prog 222 #[r.v vr vw vp vq vh vd] w X nX fun v _ _ => ∃ vr' vw' vp' vq' vh' vd', v = .tuple #[r.strip.1.v vr' vw' vp' vq' vh' vd', B r.strip.2] ∧
      r.strip.1.at w X vr' vw' vp' vq' vh' vd' := by
  intro w0 hk
  obtain ⟨h1, h2, h3, h4, h5, h6⟩ := h
  have o1 := h1.one
  have o2 := h2.one
  have o3 := h3.one
  have o4 := h4.one
  have o5 := h5.one
  have o6 := h6.one
  apply ok_recs_without; unfold vc_recs_without
  have hs := Since.init w0
  have n1 : Sl w X 1 (.slice none 0 0) (([] : List BA).map S1) := Sl.nil _ _ _
  have n2 : Sl w X 4 (.slice none 0 0) (([] : List KV).map KV.l) := Sl.nil _ _ _
  have n3 : Sl w X 1 (.slice none 0 0) (([] : List Int).map I1) := Sl.nil _ _ _
  have n4 : Hists w X (.slice none 0 0) [] := Rws.nil _ _ _
  have n5 : Pends w X (.slice none 0 0) [] := Rws.nil _ _ _
  repeat' first | with_reducible (first | apply condW_T | apply condW_F) | ((with_reducible apply m_sub); (· (simp only [Value.cells, nq1, nq2, nq3, nq4, nq5, nq6, setL, nq7, nq8, nq9, nq0, Nat.reduceAdd, Nat.zero_add]; try rfl))) | ((with_reducible apply m_set); (· (simp only [Value.cells, nq1, nq2, nq3, nq4, nq5, nq6, setL, nq7, nq8, nq9, nq0, Nat.reduceAdd, Nat.zero_add]; try rfl))) | with_reducible apply un_box | (with_reducible apply r_eql <;> intro _) | ((with_reducible apply r_bld); (· kernel_rfl)) | ((with_reducible apply m_chkc); (case h => (repeat' first | with_reducible apply all_one_cons | with_reducible exact all_one_nil | assumption | rfl | exact Sl.one (by assumption) | exact Rws.one (by assumption) | exact Sl.one (Own.sl (by assumption))))) | ((with_reducible apply m_chkl); (case h => (repeat' first | with_reducible apply all_one_cons | with_reducible exact all_one_nil | assumption | rfl | exact Sl.one (by assumption) | exact Rws.one (by assumption) | exact Sl.one (Own.sl (by assumption))))) | ((with_reducible apply chk_T); (· first | rfl | assumption | exact Sl.one (by assumption) | exact Rws.one (by assumption) | exact Sl.one (Own.sl (by assumption)))) | with_reducible apply jn_of
  all_goals
    refine fin_ret0 hs ?_
    intro wa hk9
    unfold Rec.strip
    repeat (first | rw [if_pos (by omega)] | rw [if_neg (by omega)])
    exact ⟨_, _, _, _, _, _, rfl, by assumption, by assumption, by assumption, by assumption, by assumption, by assumption⟩
end Go.Proofs.YtpdkoaklobnegaaGreat
namespace Go.Proofs.YtpdkoaklobnegaaGreat
open Go.Eng
set_option maxRecDepth 100000
set_option maxHeartbeats 1000000
set_option linter.unusedVariables false
set_option linter.unusedSimpArgs false
attribute [local irreducible] un jn chk fld ld1 ldA st1 ixS lnS lnT bld cvI cvF ixA bsS apS rdV rdW grdW eW eV eU eC eF gE condW fin pickN nilN binS vS lp0 lp1 lp2 lp3 lp4 lp5 lp6 lp7 nx0 nx1 nx2 nx3 nx4 nx5 nx6 nx7
theorem d_clone_texts {w : World} {X : XS} {a : Value} {xs : List BA} (ha : Sl w X 1 a (xs.map S1)) (hb : xs.length ≤ 2 ^ 40) :
    Ct Tryz.prog 353 #[a] w X nX fun v wa w' => Own w' (made wa w') wa.heap.size 9 1 v (xs.map S1) := by
    intro w0 hk
    replace ha := ha.mv hk.mvo
    apply ok_slices_Clone_sl_string_string; unfold vc_slices_Clone_sl_string_string
    have hs := Since.init w0
    repeat' first | with_reducible (first | apply condW_T | apply condW_F) | ((with_reducible apply m_snil); (· (first | assumption | exact Own.sl (by assumption))); (· kernel_rfl); all_goals intros) | ((with_reducible apply m_bs0); (case hX => exact hs.has); (case hu => kernel_rfl); (case hz => kernel_rfl); intro acc w X hs1 ho; replace hs := hs.trans hs1) | ((first | (with_reducible refine fin_ret0 hs ?_) | (with_reducible refine fin_ret0 (hs0.trans hs) ?_)); intro wa hk; (first | (rename_i h1 h2; (first | (rw [h2]) | skip); exact Own.nil _ _ _ _ _) | exact (ho.kp hk).tight)) | ((with_reducible apply m_appS); (case own => assumption); (case hs => assumption); (case h0 => exact fun _ h => h); (case he => kernel_rfl); (case src => exact Sl.mv ha (Since.mv hs)); (case h1 => simp [one]); (case hb => simp; omega); (case hl => simp; omega); intro acc w X hs1 ho hc hat; replace hs := hs1; rw [List.nil_append] at ho)
theorem d_clone_writes {w : World} {X : XS} {a : Value} {xs : List KV} (ha : Sl w X 4 a (xs.map KV.l)) (hb : xs.length ≤ 2 ^ 40) :
    Ct Tryz.prog 60 #[a] w X nX fun v wa w' => Own w' (made wa w') wa.heap.size 53 4 v (xs.map KV.l) := by
    intro w0 hk
    replace ha := ha.mv hk.mvo
    apply ok_slices_Clone_sl_api_Write_api_Write; unfold vc_slices_Clone_sl_api_Write_api_Write
    have hs := Since.init w0
    repeat' first | with_reducible (first | apply condW_T | apply condW_F) | ((with_reducible apply m_snil); (· (first | assumption | exact Own.sl (by assumption))); (· kernel_rfl); all_goals intros) | ((with_reducible apply m_bs0); (case hX => exact hs.has); (case hu => kernel_rfl); (case hz => kernel_rfl); intro acc w X hs1 ho; replace hs := hs.trans hs1) | ((first | (with_reducible refine fin_ret0 hs ?_) | (with_reducible refine fin_ret0 (hs0.trans hs) ?_)); intro wa hk; (first | (rename_i h1 h2; (first | (rw [h2]) | skip); exact Own.nil _ _ _ _ _) | exact (ho.kp hk).tight)) | ((with_reducible apply m_appS); (case own => assumption); (case hs => assumption); (case h0 => exact fun _ h => h); (case he => kernel_rfl); (case src => exact Sl.mv ha (Since.mv hs)); (case h1 => simp [one]); (case hb => simp; omega); (case hl => simp; omega); intro acc w X hs1 ho hc hat; replace hs := hs1; rw [List.nil_append] at ho)
theorem d_clone_versions {w : World} {X : XS} {a : Value} {xs : List Ver} (ha : Sl w X 6 a (xs.map Ver.l)) (hb : xs.length ≤ 2 ^ 40) :
    Ct Tryz.prog 317 #[a] w X nX fun v wa w' => Own w' (made wa w') wa.heap.size 337 6 v (xs.map Ver.l) := by
    intro w0 hk
    replace ha := ha.mv hk.mvo
    apply ok_slices_Clone_sl_api_Version_api_Version; unfold vc_slices_Clone_sl_api_Version_api_Version
    have hs := Since.init w0
    repeat' first | with_reducible (first | apply condW_T | apply condW_F) | ((with_reducible apply m_snil); (· (first | assumption | exact Own.sl (by assumption))); (· kernel_rfl); all_goals intros) | ((with_reducible apply m_bs0); (case hX => exact hs.has); (case hu => kernel_rfl); (case hz => kernel_rfl); intro acc w X hs1 ho; replace hs := hs.trans hs1) | ((first | (with_reducible refine fin_ret0 hs ?_) | (with_reducible refine fin_ret0 (hs0.trans hs) ?_)); intro wa hk; (first | (rename_i h1 h2; (first | (rw [h2]) | skip); exact Own.nil _ _ _ _ _) | exact (ho.kp hk).tight)) | ((with_reducible apply m_appS); (case own => assumption); (case hs => assumption); (case h0 => exact fun _ h => h); (case he => kernel_rfl); (case src => exact Sl.mv ha (Since.mv hs)); (case h1 => simp [one]); (case hb => simp; omega); (case hl => simp; omega); intro acc w X hs1 ho hc hat; replace hs := hs1; rw [List.nil_append] at ho)
theorem d_index_texts {w : World} {X : XS} {a : Value} {xs : List BA} {k : BA} (ha : Sl w X 1 a (xs.map S1)) :
    Ct Tryz.prog 371 #[a, .string k] w X nX fun v _ _ => v = I (idxOf (fun x => decide (k = x)) xs) := by
  intro w0 hk
  replace ha := ha.mv hk.mvo
  have hla := ha.len'
  apply ok_slices_Index_sl_string_string; unfold vc_slices_Index_sl_string_string
  have hs := Since.init w0
  repeat' first | ((with_reducible apply m_lnS); (· (first | assumption | exact Own.sl (by assumption))); (· kernel_rfl))
  refine lp1_of (fun n a w X => ∃ i : Nat, a = I (i : Nat) ∧ n = (xs).length - i ∧ i ≤ (xs).length ∧ Since (old w0) w0 X w ∧ (∀ (j : Nat) x, j < i → xs[j]? = some x → decide (k = x) = false)) (xs).length ⟨0, rfl, rfl, Nat.zero_le _, hs, by simp⟩ ?_
  rintro n a w X ⟨i, rfl, rfl, hi, hs, hw⟩
  rcases at_or (xs) i with ⟨hlt, x, hx, hd⟩ | ⟨hge, hd⟩
  · repeat' first | ((with_reducible refine r_lssT ?_ ?_); (· omega)) | with_reducible (first | apply condW_T | apply condW_F) | (with_reducible apply r_seql <;> intro _) | ((with_reducible apply m_ld1); (· (first | assumption | exact RowIs.cells (by assumption))); (· (first | exact mv0 | exact mv1 (by assumption) | exact mv2 (by assumption) (by assumption))); (· kernel_rfl); (· rfl)) | ((with_reducible apply m_ixS); (· (first | assumption | exact Own.sl (by assumption))); (try (case hz => rfl)); (case hr => first | assumption | exact List.getElem?_eq_getElem (by omega)); (try (case hz => omega)); (case ht => kernel_rfl); (case hs => kernel_rfl); intro _ _ _) | ((with_reducible apply r_add); (· omega); (· omega)) | ((first | (with_reducible refine fin_ret0 hs ?_) | (with_reducible refine fin_ret0 (hs0.trans hs) ?_)); intro wa hk; (rw [idxOf_at hw hx (by simpa)])) | ((with_reducible refine nx1_of ((xs).length - (i + 1)) ?_ ?_); (· omega); exact ⟨i + 1, by simp, rfl, by omega, hs, fun j y hj hy => by rcases Nat.lt_succ_iff_lt_or_eq.1 hj with h | h; exact hw j y h hy; subst h; rw [hx] at hy; cases hy; simpa⟩)
  · repeat' first | ((with_reducible refine r_lssF ?_ ?_); (· omega)) | with_reducible apply condW_F | ((first | (with_reducible refine fin_ret0 hs ?_) | (with_reducible refine fin_ret0 (hs0.trans hs) ?_)); intro wa hk; (rw [idxOf_none fun j x hj hx => hw j x (by omega) hx]))
theorem d_contains_texts {w : World} {X : XS} {a : Value} {xs : List BA} {k : BA} (ha : Sl w X 1 a (xs.map S1)) :
    Ct Tryz.prog 351 #[a, .string k] w X nX fun v _ _ => v = B (xs.any fun x => decide (k = x)) := by
  intro w0 hk
  replace ha := ha.mv hk.mvo
  apply ok_slices_Contains_sl_string_string; unfold vc_slices_Contains_sl_string_string
  have hs := Since.init w0
  repeat' first | (with_reducible apply r_geq <;> intro _) | ((first | (with_reducible refine fin_ret0 hs ?_) | (with_reducible refine fin_ret0 (hs0.trans hs) ?_)); intro wa hk; (rw [← idxOf_any]; simp [*])) | (refine r_ct0V (d_index_texts  (by first | assumption | exact Sl.mv (by assumption) (by (first | exact mv0 | exact mv1 (by assumption) | exact mv2 (by assumption) (by assumption))) | exact Pends.mv (by assumption) (by (first | exact mv0 | exact mv1 (by assumption) | exact mv2 (by assumption) (by assumption))) | exact Hists.mv (by assumption) (by (first | exact mv0 | exact mv1 (by assumption) | exact mv2 (by assumption) (by assumption))) | exact Rec.at.mv (by assumption) (by (first | exact mv0 | exact mv1 (by assumption) | exact mv2 (by assumption) (by assumption))) | exact Own.sl (by assumption) | exact Cells.mv (by assumption) (by (first | exact mv0 | exact mv1 (by assumption) | exact mv2 (by assumption) (by assumption))) | exact Cells.mv (RowIs.cells (by assumption)) (by (first | exact mv0 | exact mv1 (by assumption) | exact mv2 (by assumption) (by assumption))) | omega)) (by kernel_rfl) hs.has ?_; intro w X hs1; replace hs := hs.trans hs1)
theorem d_indexFunc_writes {w : World} {X : XS} {a : Value} {xs : List KV} {f : FuncId} {cs : List Value} {p : KV → Bool} (ha : Sl w X 4 a (xs.map KV.l)) (hX : ∀ k, X k → k < w.heap.size) (hf : enters Tryz.prog f = true)
    (hp : ∀ x, Ct Tryz.prog f ((.agg x.l.toArray) :: cs).toArray w X nX fun v _ _ => v = B (p x)) :
    Ct Tryz.prog 379 #[a, .func (.func f) #[] cs.toArray] w X nX fun v _ _ => v = I (idxOf p xs) := by
  intro w0 hk
  replace ha := ha.mv hk.mvo
  replace hp := fun x => ((hp x).kp hk).old fun k hx => Nat.lt_of_lt_of_le (hX k hx) hk.size
  have hla := ha.len'
  apply ok_slices_IndexFunc_sl_api_Write_api_Write; unfold vc_slices_IndexFunc_sl_api_Write_api_Write
  have hs := Since.init w0
  repeat' first | ((with_reducible apply m_lnS); (· (first | assumption | exact Own.sl (by assumption))); (· kernel_rfl))
  refine lp1_of (fun n a w X => ∃ i : Nat, a = I (i : Nat) ∧ n = (xs).length - i ∧ i ≤ (xs).length ∧ Since (old w0) w0 X w ∧ (∀ (j : Nat) x, j < i → xs[j]? = some x → p x = false)) (xs).length ⟨0, rfl, rfl, Nat.zero_le _, hs, by simp⟩ ?_
  rintro n a w X ⟨i, rfl, rfl, hi, hs, hw⟩
  rcases at_or (xs) i with ⟨hlt, x, hx, hd⟩ | ⟨hge, hd⟩
  · repeat' first | ((with_reducible refine r_lssT ?_ ?_); (· omega)) | with_reducible (first | apply condW_T | apply condW_F) | ((with_reducible apply m_ldA); (· (first | assumption | exact RowIs.cells (by assumption))); (· (first | exact mv0 | exact mv1 (by assumption) | exact mv2 (by assumption) (by assumption))); (· kernel_rfl); (· rfl)) | ((with_reducible apply m_ixS); (· (first | assumption | exact Own.sl (by assumption))); (try (case hz => rfl)); (case hr => first | assumption | exact List.getElem?_eq_getElem (by omega)); (try (case hz => omega)); (case ht => kernel_rfl); (case hs => kernel_rfl); intro _ _ _) | ((with_reducible apply r_add); (· omega); (· omega)) | ((with_reducible apply m_fun); (· rfl)) | ((first | (with_reducible refine fin_ret0 hs ?_) | (with_reducible refine fin_ret0 (hs0.trans hs) ?_)); intro wa hk; (rw [idxOf_at hw hx ‹_›])) | ((with_reducible refine nx1_of ((xs).length - (i + 1)) ?_ ?_); (· omega); exact ⟨i + 1, by simp, rfl, by omega, hs, fun j y hj hy => by rcases Nat.lt_succ_iff_lt_or_eq.1 hj with h | h; exact hw j y h hy; subst h; rw [hx] at hy; cases hy; assumption⟩) | (refine r_ct0B ((hp x).since hs) hf hs.has ?_ ?_ <;> (intro _ w X hs1; replace hs := hs.trans hs1))
  · repeat' first | ((with_reducible refine r_lssF ?_ ?_); (· omega)) | with_reducible apply condW_F | ((first | (with_reducible refine fin_ret0 hs ?_) | (with_reducible refine fin_ret0 (hs0.trans hs) ?_)); intro wa hk; (rw [idxOf_none fun j x hj hx => hw j x (by omega) hx]))
theorem d_containsFunc_writes {w : World} {X : XS} {a : Value} {xs : List KV} {f : FuncId} {cs : List Value} {p : KV → Bool} (ha : Sl w X 4 a (xs.map KV.l)) (hX : ∀ k, X k → k < w.heap.size) (hf : enters Tryz.prog f = true)
    (hp : ∀ x, Ct Tryz.prog f ((.agg x.l.toArray) :: cs).toArray w X nX fun v _ _ => v = B (p x)) :
    Ct Tryz.prog 369 #[a, .func (.func f) #[] cs.toArray] w X nX fun v _ _ => v = B (xs.any p) := by
  intro w0 hk
  replace ha := ha.mv hk.mvo
  replace hp := fun x => ((hp x).kp hk).old fun k hx => Nat.lt_of_lt_of_le (hX k hx) hk.size
  apply ok_slices_ContainsFunc_sl_api_Write_api_Write; unfold vc_slices_ContainsFunc_sl_api_Write_api_Write
  have hs := Since.init w0
  repeat' first | (with_reducible apply r_geq <;> intro _) | ((first | (with_reducible refine fin_ret0 hs ?_) | (with_reducible refine fin_ret0 (hs0.trans hs) ?_)); intro wa hk; (rw [← idxOf_any]; simp [*])) | (refine r_ct0V (d_indexFunc_writes ha hs.has hf hp) (by kernel_rfl) hs.has ?_; intro w X hs1; replace hs := hs.trans hs1)
end Go.Proofs.YtpdkoaklobnegaaGreat
namespace Go.Proofs.YtpdkoaklobnegaaGreat
open Go.Eng
set_option maxRecDepth 100000
set_option maxHeartbeats 1000000
set_option linter.unusedVariables false
set_option linter.unusedSimpArgs false
attribute [local irreducible] un jn chk fld ld1 ldA st1 ixS lnS lnT bld cvI cvF ixA bsS apS rdV rdW grdW eW eV eU eC eF gE condW fin pickN nilN binS vS lp0 lp1 lp2 lp3 lp4 lp5 lp6 lp7 nx0 nx1 nx2 nx3 nx4 nx5 nx6 nx7
def tle (a b : BA) : Bool := tlt a b || decide (a = b)
def versFrom : Stamp → List Ver → Bool
  | _, [] => true
  | s, v :: r => v.stamp.may && decide (v.stamp.cmp s > 0) && v.val.may && versFrom v.stamp r
def Hist.ok (h : Hist) (ahead : BA) : Bool := goodKey h.key && !tle h.key ahead && decide (h.vers ≠ []) && versFrom .zero h.vers
theorem d_mvcc_history {w : World} {X : XS} {h : Hist} {vv : Value} {ahead : BA} (ha : Sl w X 6 vv (h.vers.map Ver.l)) :
    Ct Tryz.prog 316 #[.agg (h.l vv).toArray, .string ahead] w X nX fun v _ _ => v = B (h.ok ahead) := by
  intro w0 hk
  replace ha := ha.mv hk.mvo
  have hla := ha.len'
  apply ok_mvcc_history; unfold vc_mvcc_history
  have hs := Since.init w0
  repeat' first | with_reducible (first | apply condW_T | apply condW_F | apply un_box | apply un_selF | apply un_selTF | apply grdV_onF | apply grdW_offF | apply rdW_pickT | apply rdW_pickF | apply r_notT | apply r_notF) | (with_reducible apply r_eql <;> intro _) | (with_reducible apply r_sleq <;> intros) | ((with_reducible apply m_lnS); (· (first | assumption | exact Own.sl (by assumption))); (· kernel_rfl)) | ((with_reducible apply r_bld); (· kernel_rfl)) | ((with_reducible apply m_chkc); (case h => (repeat' first | with_reducible apply all_one_cons | with_reducible exact all_one_nil | assumption | rfl | exact Sl.one (by assumption) | exact Rws.one (by assumption) | exact Sl.one (Own.sl (by assumption))))) | ((with_reducible apply chk_T); (· first | rfl | assumption | exact Sl.one (by assumption) | exact Rws.one (by assumption) | exact Sl.one (Own.sl (by assumption)))) | ((with_reducible refine r_pureB (c_datum_Key _) ?_ hs.has ?_ ?_); (· kernel_rfl); all_goals (intro _ w X hs1; replace hs := hs.trans hs1)) | ((first | (with_reducible refine fin_ret0 hs ?_) | (with_reducible refine fin_ret0 (hs0.trans hs) ?_)); intro wa hk; (simp_all [Hist.ok, tle] <;> grind))
  refine lp2_of (fun n a b w X => ∃ (i : Nat) (s : Stamp), a = I i ∧ b = s.v ∧ n = h.vers.length - i ∧ i ≤ h.vers.length ∧ Since (old w0) w0 X w ∧ versFrom .zero h.vers = versFrom s (h.vers.drop i)) h.vers.length
    ⟨0, .zero, rfl, rfl, rfl, Nat.zero_le _, hs, by simp⟩ ?_
  rintro n a b w X ⟨i, s, rfl, rfl, rfl, hi, hs, hw⟩
  have hne : h.vers ≠ [] := by intro e; simp_all
  rcases at_or (h.vers) i with ⟨hlt, x, hx, hd⟩ | ⟨hge, hd⟩
  · rw [hd, versFrom] at hw
    clear hd
    repeat' first | ((with_reducible refine r_lssT ?_ ?_); (· omega)) | with_reducible (first | apply condW_T | apply condW_F) | ((with_reducible apply m_sub); (· (simp only [Value.cells, nq1, nq2, nq3, nq4, nq5, nq6, setL, nq7, nq8, nq9, nq0, Nat.reduceAdd, Nat.zero_add]; try rfl))) | with_reducible (first | apply un_box | apply un_selF | apply un_selTF | apply grdV_onF | apply grdW_offF | apply rdW_pickT | apply rdW_pickF | apply gE_F | apply gE_TF | apply r_notT | apply r_notF) | (with_reducible apply r_leq <;> intro _) | ((with_reducible apply m_ldA); (· (first | assumption | exact RowIs.cells (by assumption))); (· (first | exact mv0 | exact mv1 (by assumption) | exact mv2 (by assumption) (by assumption))); (· kernel_rfl); (· rfl)) | ((with_reducible apply m_ixS); (· (first | assumption | exact Own.sl (by assumption))); (try (case hz => rfl)); (case hr => first | assumption | exact List.getElem?_eq_getElem (by omega)); (try (case hz => omega)); (case ht => kernel_rfl); (case hs => kernel_rfl); intro _ _ _) | ((with_reducible apply m_chkc); (case h => (repeat' first | with_reducible apply all_one_cons | with_reducible exact all_one_nil | assumption | rfl | exact Sl.one (by assumption) | exact Rws.one (by assumption) | exact Sl.one (Own.sl (by assumption))))) | ((with_reducible apply chk_T); (· first | rfl | assumption | exact Sl.one (by assumption) | exact Rws.one (by assumption) | exact Sl.one (Own.sl (by assumption)))) | ((with_reducible apply r_add); (· omega); (· omega)) | with_reducible apply jn_of | ((with_reducible refine r_pure (c_hlc_Compare _ _) ?_ hs.has ?_); (· kernel_rfl); intro w X hs1; replace hs := hs.trans hs1) | ((with_reducible refine r_pureB (c_datum_May _) ?_ hs.has ?_ ?_); (· kernel_rfl); all_goals (intro _ w X hs1; replace hs := hs.trans hs1)) | ((with_reducible refine r_pureB (c_hlc_May _) ?_ hs.has ?_ ?_); (· kernel_rfl); all_goals (intro _ w X hs1; replace hs := hs.trans hs1)) | ((first | (with_reducible refine fin_ret0 hs ?_) | (with_reducible refine fin_ret0 (hs0.trans hs) ?_)); intro wa hk; (simp_all [Hist.ok, tle] <;> grind)) | ((with_reducible refine nx2_of ((h.vers).length - (i + 1)) ?_ ?_); (· omega); exact ⟨i + 1, x.stamp, by simp, rfl, rfl, by omega, hs, by simp_all⟩)
  · repeat' first | ((with_reducible refine r_lssF ?_ ?_); (· omega)) | with_reducible apply condW_F | ((first | (with_reducible refine fin_ret0 hs ?_) | (with_reducible refine fin_ret0 (hs0.trans hs) ?_)); intro wa hk; (simp_all [Hist.ok, tle, versFrom] <;> grind))
def Pend.has (p : Pend) (k : BA) : Bool := p.writes.any fun w => decide (w.key = k)
theorem d_mvcc_writes_c1 {w : World} {X : XS} {x : KV} {k : BA} {b : Nat} (h : Cells w X b 0 [.string k]) :
    Ct Tryz.prog 370 #[.agg x.l.toArray, ptr b 0] w X nX fun v _ _ => v = B (decide (x.key = k)) := by
  intro w0 hk
  replace h := h.mv hk.mvo
  apply ok_mvcc_writes_c1; unfold vc_mvcc_writes_c1
  have hs := Since.init w0
  repeat' first | (with_reducible apply r_seql <;> intro _) | ((with_reducible apply m_ld1); (· (first | assumption | exact RowIs.cells (by assumption))); (· (first | exact mv0 | exact mv1 (by assumption) | exact mv2 (by assumption) (by assumption))); (· kernel_rfl); (· rfl)) | ((first | (with_reducible refine fin_ret0 hs ?_) | (with_reducible refine fin_ret0 (hs0.trans hs) ?_)); intro wa hk; simp_all)
theorem d_mvcc_writes {w : World} {X : XS} {p : Pend} {vr vw : Value} {k : BA} (hX : ∀ k, X k → k < w.heap.size) (h2 : Sl w X 4 vw (p.writes.map KV.l)) :
    Ct Tryz.prog 350 #[p.v vr vw, .string k] w X nX fun v _ _ => v = B (p.has k) := by
  intro w0 hk
  replace h2 := h2.mv hk.mvo
  apply ok_mvcc_writes; unfold vc_mvcc_writes
  have hs := Since.init w0
  repeat' first | ((with_reducible apply m_boxS); (case ho => rfl); (case hX => exact hs.has); intro bx w X hbx hs1 hrow; have hs0 := hs.trans hs1; replace hs := Since.refl' hs1.has) | (with_reducible apply m_mkFun) | ((first | (with_reducible refine fin_ret0 hs ?_) | (with_reducible refine fin_ret0 (hs0.trans hs) ?_)); intro wa hk; (simp [Pend.has])) | (refine r_ct0V (d_containsFunc_writes (p := fun x => decide (x.key = k)) (h2.mv (Since.mv (hs0.trans hs))) hs.has (by kernel_rfl) fun x => d_mvcc_writes_c1 (x := x) (by first | exact hrow.cells)) (by kernel_rfl) hs.has ?_; intro w X hs1; replace hs := hs.trans hs1)
end Go.Proofs.YtpdkoaklobnegaaGreat
namespace Go.Proofs.YtpdkoaklobnegaaGreat
open Go.Eng
set_option maxRecDepth 100000
set_option maxHeartbeats 1000000
set_option linter.unusedVariables false
set_option linter.unusedSimpArgs false
attribute [local irreducible] un jn chk fld ld1 ldA st1 ixS lnS lnT bld cvI cvF ixA bsS apS rdV rdW grdW eW eV eU eC eF gE condW fin pickN nilN binS vS lp0 lp1 lp2 lp3 lp4 lp5 lp6 lp7 nx0 nx1 nx2 nx3 nx4 nx5 nx6 nx7
theorem key_txn : KeyOf Tryz.prog 33 (fun k : Txn => k.v) :=
  key_ints (n := 3) (by kernel_rfl) (fun k : Txn => [k.coord, k.life, k.sq]) (fun _ => rfl) (fun a b h => by
    simp only [List.cons.injEq, and_true] at h
    exact Txn.ext h.1 h.2.1 h.2.2)
theorem key_text : KeyOf Tryz.prog 9 (fun s : BA => Value.string s) := key_string (by kernel_rfl)
def rdVers (w : World) (A : XS) (v : Value) (l : List Ver) : Prop := Sl w A 6 v (l.map Ver.l)
def rdPend (w : World) (A : XS) (v : Value) (p : Pend) : Prop := ∃ vr vw, v = p.v vr vw ∧ Sl w A 1 vr (p.reads.map S1) ∧ Sl w A 4 vw (p.writes.map KV.l)
theorem rdVers.mv : MovesV rdVers := fun _ _ _ _ _ _ h m => Sl.mv h m
theorem rdPend.mv : MovesV rdPend := fun _ _ _ _ _ _ ⟨vr, vw, h, h1, h2⟩ m => ⟨vr, vw, h, h1.mv m, h2.mv m⟩
structure StoreIs (w : World) (X A : XS) (sb kb pb : Nat) (hm : List (BA × List Ver)) (pm : List (Txn × Pend)) (low : Stamp) : Prop where
  box : RowIs w X sb [.map (some kb), .map (some pb), I low.wall, I low.logic, I low.node] 382
  keys : MapR w X A kb (fun s : BA => Value.string s) rdVers hm
  pend : MapR w X A pb (fun k : Txn => k.v) rdPend pm
  sub : ∀ k, A k → X k
  off : ∀ k, A k → k ≠ sb ∧ k ≠ kb ∧ k ≠ pb
theorem StoreIs.mv {w w' : World} {X Y A : XS} {sb kb pb : Nat} {hm : List (BA × List Ver)} {pm : List (Txn × Pend)} {low : Stamp} (h : StoreIs w X A sb kb pb hm pm low)
    (hX : ∀ k, X k → k < w.heap.size) (m : Mv X w Y w') : StoreIs w' Y A sb kb pb hm pm low := by
  have ma : Mv A w A w' := fun k hk hl => ⟨hk, (m k (h.sub k hk) hl).2⟩
  exact ⟨h.box.mv m, h.keys.mv rdVers.mv m ma, h.pend.mv rdPend.mv m ma, fun k hk => (m k (h.sub k hk) (hX k (h.sub k hk))).1, h.off⟩
theorem r_versOf {w : World} {X A : XS} {kb : Nat} {hm : List (BA × List Ver)} {k : BA} {N : Value → Prop} {w0 : World} {X0 : XS} (h : MapR w0 X0 A kb (fun s : BA => Value.string s) rdVers hm) (hA : ∀ k, A k → X0 k) (m : Mv X0 w0 X w)
    (n : ∀ v, Sl w0 X0 6 v (((getM k hm).getD []).map Ver.l) → N v) : rdV Tryz.prog X w (Instr.lookup 379 (.map (some kb)) (.string k) false) N := by
  have h' : MapR w X A kb (fun s : BA => Value.string s) rdVers hm := h.mv rdVers.mv m fun k hk hl => ⟨hk, (m k (hA k hk) hl).2⟩
  obtain ⟨es, c, h1, h2⟩ := h
  have m' : Mv A w0 A w := fun k hk hl => ⟨hk, (m k (hA k hk) hl).2⟩
  refine m_mapGet1 (et := 286) (A := X) (rd := fun w X v l => Sl w0 A 6 v (l.map Ver.l)) (l := hm) (.slice none 0 0) ?_ key_text (by kernel_rfl) (by kernel_rfl) (fun v a hg hr => ?_) fun hg => ?_
  · exact ⟨es, c, h1.mv m, by
      clear h1 h' n
      induction es generalizing hm with
      | nil => cases hm <;> first | trivial | exact h2.elim
      | cons e es ih => cases hm with
        | nil => exact h2.elim
        | cons x l => exact ⟨h2.1, h2.2.1, ih h2.2.2⟩⟩
  · exact n v (by rw [hg]; exact Sl.mv hr (Mv.sub hA))
  · exact n _ (by rw [hg]; exact Sl.nil _ _ _)
def Pend.clash (x q : Pend) : Bool := x.writes.any (fun w => q.has w.key || q.reads.any fun k => decide (w.key = k)) || x.reads.any fun k => q.has k
def newestOf (l : List Ver) (at' : Stamp) (all : Bool) : Val × Stamp := l.foldl (fun s v => if all || decide (v.stamp.cmp at' ≤ 0) then (v.val, v.stamp) else s) (.zero, .zero)
def versOf (hm : List (BA × List Ver)) (k : BA) : List Ver := (getM k hm).getD []
abbrev seenV (k : BA) (s : Val × Stamp) : Value := .agg #[.string k, I s.1.kind, .float .f64 s.1.num, .string s.1.text, I s.2.wall, I s.2.logic, I s.2.node]
theorem d_mvcc_newest {w : World} {X A : XS} {sb kb pb : Nat} {hm : List (BA × List Ver)} {pm : List (Txn × Pend)} {low at' : Stamp} {k : BA} {all : Bool}
    (h : StoreIs w X A sb kb pb hm pm low) (hX : ∀ k, X k → k < w.heap.size) :
    Ct Tryz.prog 372 #[ptr sb 0, .string k, at'.v, B all] w X nX fun v _ _ => v = seenV k (newestOf (versOf hm k) at' all) := by
  intro w0 hk
  replace h := h.mv hX hk.mvo
  have hbx := h.box
  have hkm := h.keys
  apply ok_mvcc_Store_newest; unfold vc_mvcc_Store_newest
  have hs := Since.init w0
  repeat' first | with_reducible (first | apply un_box | apply r_nil) | ((with_reducible apply m_fld1); (· (first | assumption | exact RowIs.cells (by assumption))); (· kernel_rfl); (· rfl); intro _ _ _) | ((with_reducible apply m_ld1); (· (first | assumption | exact RowIs.cells (by assumption))); (· (first | exact mv0 | exact mv1 (by assumption) | exact mv2 (by assumption) (by assumption))); (· kernel_rfl); (· rfl)) | ((with_reducible apply r_bld); (· kernel_rfl)) | ((with_reducible apply m_chkc); (case h => (repeat' first | with_reducible apply all_one_cons | with_reducible exact all_one_nil | assumption | rfl | exact Sl.one (by assumption) | exact Rws.one (by assumption) | exact Sl.one (Own.sl (by assumption))))) | ((with_reducible apply chk_T); (· first | rfl | assumption | exact Sl.one (by assumption) | exact Rws.one (by assumption) | exact Sl.one (Own.sl (by assumption))))
  refine r_versOf hkm h.sub (Mv.refl _ _) fun vv hvv => ?_
  show rdV _ _ _ _ _
  have hvs : versOf hm k = (getM k hm).getD [] := rfl
  rw [← hvs] at hvv
  generalize versOf hm k = vs at hvv
  have hla := hvv.len'
  repeat' first | ((with_reducible apply m_lnS); (· (first | assumption | exact Own.sl (by assumption))); (· kernel_rfl))
  refine lp2_of (fun n a b w X => ∃ (i : Nat) (s : Val × Stamp), a = I i ∧ b = seenV k s ∧ n = vs.length - i ∧ i ≤ vs.length ∧ Since (old w0) w0 X w ∧
    newestOf vs at' all = (vs.drop i).foldl (fun s v => if all || decide (v.stamp.cmp at' ≤ 0) then (v.val, v.stamp) else s) s) vs.length ⟨0, (.zero, .zero), rfl, rfl, rfl, Nat.zero_le _, hs, by rw [List.drop_zero]; rfl⟩ ?_
  rintro n a b w X ⟨i, s, rfl, rfl, rfl, hi, hs, hw⟩
  rcases at_or (vs) i with ⟨hlt, x, hx, hd⟩ | ⟨hge, hd⟩
  · rw [hd, List.foldl_cons] at hw
    cases all
    · repeat' first | ((with_reducible refine r_lssT ?_ ?_); (· omega)) | with_reducible (first | apply condW_T | apply condW_F) | ((with_reducible apply m_sub); (· (simp only [Value.cells, nq1, nq2, nq3, nq4, nq5, nq6, setL, nq7, nq8, nq9, nq0, Nat.reduceAdd, Nat.zero_add]; try rfl))) | ((with_reducible apply m_set); (· (simp only [Value.cells, nq1, nq2, nq3, nq4, nq5, nq6, setL, nq7, nq8, nq9, nq0, Nat.reduceAdd, Nat.zero_add]; try rfl))) | with_reducible (first | apply un_box | apply un_selF | apply grdV_onF | apply rdW_pickF | apply gE_F) | (with_reducible apply r_leq <;> intro _) | ((with_reducible apply m_ldA); (· (first | assumption | exact RowIs.cells (by assumption))); (· (first | exact mv0 | exact mv1 (by assumption) | exact mv2 (by assumption) (by assumption))); (· kernel_rfl); (· rfl)) | ((with_reducible apply m_ixS); (· (first | assumption | exact Own.sl (by assumption))); (try (case hz => rfl)); (case hr => first | assumption | exact List.getElem?_eq_getElem (by omega)); (try (case hz => omega)); (case ht => kernel_rfl); (case hs => kernel_rfl); intro _ _ _) | ((with_reducible apply m_chkc); (case h => (repeat' first | with_reducible apply all_one_cons | with_reducible exact all_one_nil | assumption | rfl | exact Sl.one (by assumption) | exact Rws.one (by assumption) | exact Sl.one (Own.sl (by assumption))))) | ((with_reducible apply chk_T); (· first | rfl | assumption | exact Sl.one (by assumption) | exact Rws.one (by assumption) | exact Sl.one (Own.sl (by assumption)))) | ((with_reducible apply r_add); (· omega); (· omega)) | with_reducible apply jn_of | ((with_reducible refine r_pure (c_hlc_Compare _ _) ?_ hs.has ?_); (· kernel_rfl); intro w X hs1; replace hs := hs.trans hs1) | ((with_reducible refine nx2_of ((vs).length - (i + 1)) ?_ ?_); (· omega); exact ⟨i + 1, (x.val, x.stamp), by simp, rfl, rfl, by omega, hs, by rw [hw]; simp [*]⟩) | ((with_reducible refine nx2_of ((vs).length - (i + 1)) ?_ ?_); (· omega); exact ⟨i + 1, s, by simp, rfl, rfl, by omega, hs, by rw [hw]; simp [*]⟩)
    · repeat' first | ((with_reducible refine r_lssT ?_ ?_); (· omega)) | with_reducible apply condW_T | ((with_reducible apply m_sub); (· (simp only [Value.cells, nq1, nq2, nq3, nq4, nq5, nq6, setL, nq7, nq8, nq9, nq0, Nat.reduceAdd, Nat.zero_add]; try rfl))) | ((with_reducible apply m_set); (· (simp only [Value.cells, nq1, nq2, nq3, nq4, nq5, nq6, setL, nq7, nq8, nq9, nq0, Nat.reduceAdd, Nat.zero_add]; try rfl))) | with_reducible (first | apply un_box | apply un_selTF | apply grdW_offF | apply rdW_pickT | apply gE_TF) | ((with_reducible apply m_ldA); (· (first | assumption | exact RowIs.cells (by assumption))); (· (first | exact mv0 | exact mv1 (by assumption) | exact mv2 (by assumption) (by assumption))); (· kernel_rfl); (· rfl)) | ((with_reducible apply m_ixS); (· (first | assumption | exact Own.sl (by assumption))); (try (case hz => rfl)); (case hr => first | assumption | exact List.getElem?_eq_getElem (by omega)); (try (case hz => omega)); (case ht => kernel_rfl); (case hs => kernel_rfl); intro _ _ _) | ((with_reducible apply m_chkc); (case h => (repeat' first | with_reducible apply all_one_cons | with_reducible exact all_one_nil | assumption | rfl | exact Sl.one (by assumption) | exact Rws.one (by assumption) | exact Sl.one (Own.sl (by assumption))))) | ((with_reducible apply chk_T); (· first | rfl | assumption | exact Sl.one (by assumption) | exact Rws.one (by assumption) | exact Sl.one (Own.sl (by assumption)))) | ((with_reducible apply r_add); (· omega); (· omega)) | with_reducible apply jn_of | ((with_reducible refine nx2_of ((vs).length - (i + 1)) ?_ ?_); (· omega); exact ⟨i + 1, (x.val, x.stamp), by simp, rfl, rfl, by omega, hs, by rw [hw]; simp [*]⟩)
  · repeat' first | ((with_reducible refine r_lssF ?_ ?_); (· omega)) | with_reducible apply condW_F | ((with_reducible apply m_sub); (· (simp only [Value.cells, nq1, nq2, nq3, nq4, nq5, nq6, setL, nq7, nq8, nq9, nq0, Nat.reduceAdd, Nat.zero_add]; try rfl))) | with_reducible apply un_box | ((with_reducible apply m_chkc); (case h => (repeat' first | with_reducible apply all_one_cons | with_reducible exact all_one_nil | assumption | rfl | exact Sl.one (by assumption) | exact Rws.one (by assumption) | exact Sl.one (Own.sl (by assumption))))) | ((with_reducible apply chk_T); (· first | rfl | assumption | exact Sl.one (by assumption) | exact Rws.one (by assumption) | exact Sl.one (Own.sl (by assumption)))) | ((first | (with_reducible refine fin_ret0 hs ?_) | (with_reducible refine fin_ret0 (hs0.trans hs) ?_)); intro wa hk; (rw [hw, hd]; rfl))
theorem d_mvcc_Newest {w : World} {X A : XS} {sb kb pb : Nat} {hm : List (BA × List Ver)} {pm : List (Txn × Pend)} {low : Stamp} {k : BA}
    (h : StoreIs w X A sb kb pb hm pm low) (hX : ∀ k, X k → k < w.heap.size) :
    Ct Tryz.prog 352 #[ptr sb 0, .string k] w X nX fun v _ _ => v = seenV k (newestOf (versOf hm k) .zero true) := by
  intro w0 hk
  replace h := h.mv hX hk.mvo
  apply ok_mvcc_Store_Newest; unfold vc_mvcc_Store_Newest
  have hs := Since.init w0
  repeat' first | ((with_reducible apply m_sub); (· (simp only [Value.cells, nq1, nq2, nq3, nq4, nq5, nq6, setL, nq7, nq8, nq9, nq0, Nat.reduceAdd, Nat.zero_add]; try rfl))) | with_reducible apply un_box | ((with_reducible apply r_bld); (· kernel_rfl)) | ((with_reducible apply m_chkc); (case h => (repeat' first | with_reducible apply all_one_cons | with_reducible exact all_one_nil | assumption | rfl | exact Sl.one (by assumption) | exact Rws.one (by assumption) | exact Sl.one (Own.sl (by assumption))))) | ((with_reducible apply chk_T); (· first | rfl | assumption | exact Sl.one (by assumption) | exact Rws.one (by assumption) | exact Sl.one (Own.sl (by assumption)))) | ((first | (with_reducible refine fin_ret0 hs ?_) | (with_reducible refine fin_ret0 (hs0.trans hs) ?_)); intro wa hk; rfl) | (refine r_ct0V (d_mvcc_newest (at' := .zero) h hs.has) (by kernel_rfl) hs.has ?_; intro w X hs1; replace hs := hs.trans hs1)
def oldFor (hm : List (BA × List Ver)) (x : Pend) : Bool := x.writes.any fun w => decide ((newestOf (versOf hm w.key) .zero true).2.cmp x.stamp ≥ 0)
theorem d_mvcc_old {w : World} {X A : XS} {sb kb pb : Nat} {hm : List (BA × List Ver)} {pm : List (Txn × Pend)} {low : Stamp} {x : Pend} {vr vw : Value}
    (h : StoreIs w X A sb kb pb hm pm low) (hX : ∀ k, X k → k < w.heap.size) (h2 : Sl w X 4 vw (x.writes.map KV.l)) :
    Ct Tryz.prog 319 #[ptr sb 0, x.v vr vw] w X nX fun v _ _ => v = B (oldFor hm x) := by
  intro w0 hk
  replace h := h.mv hX hk.mvo
  replace h2 := h2.mv hk.mvo
  have hla := h2.len'
  apply ok_mvcc_Store_old; unfold vc_mvcc_Store_old
  have hs := Since.init w0
  repeat' first | ((with_reducible apply m_lnS); (· (first | assumption | exact Own.sl (by assumption))); (· kernel_rfl))
  refine lp1_of (fun n a w X => ∃ i : Nat, a = I (i : Nat) ∧ n = (x.writes).length - i ∧ i ≤ (x.writes).length ∧ Since (old w0) w0 X w ∧ oldFor hm x = (x.writes.drop i).any (fun w => decide ((newestOf (versOf hm w.key) .zero true).2.cmp x.stamp ≥ 0))) (x.writes).length ⟨0, rfl, rfl, Nat.zero_le _, hs, by simp [oldFor]⟩ ?_
  rintro n a w X ⟨i, rfl, rfl, hi, hs, hw⟩
  rcases at_or (x.writes) i with ⟨hlt, y, hy, hd⟩ | ⟨hge, hd⟩
  · rw [hd, List.any_cons] at hw
    repeat' first | ((with_reducible refine r_lssT ?_ ?_); (· omega)) | with_reducible (first | apply condW_T | apply condW_F) | ((with_reducible apply un_cell); (· rfl)) | with_reducible apply un_box | (with_reducible apply r_geq <;> intro _) | ((with_reducible apply m_ldA); (· (first | assumption | exact RowIs.cells (by assumption))); (· (first | exact mv0 | exact mv1 (by assumption) | exact mv2 (by assumption) (by assumption))); (· kernel_rfl); (· rfl)) | ((with_reducible apply m_ixS); (· (first | assumption | exact Own.sl (by assumption))); (try (case hz => rfl)); (case hr => first | assumption | exact List.getElem?_eq_getElem (by omega)); (try (case hz => omega)); (case ht => kernel_rfl); (case hs => kernel_rfl); intro _ _ _) | ((with_reducible apply m_chkc); (case h => (repeat' first | with_reducible apply all_one_cons | with_reducible exact all_one_nil | assumption | rfl | exact Sl.one (by assumption) | exact Rws.one (by assumption) | exact Sl.one (Own.sl (by assumption))))) | ((with_reducible apply chk_T); (· first | rfl | assumption | exact Sl.one (by assumption) | exact Rws.one (by assumption) | exact Sl.one (Own.sl (by assumption)))) | ((with_reducible apply r_add); (· omega); (· omega)) | ((with_reducible apply r_fdVn); (case hf => kernel_rfl); (case hg => kernel_rfl); (case hlen => rfl); (case hl => (simp only [Value.cells, nq1, nq2, nq3, nq4, nq5, nq6, setL, nq7, nq8, nq9, nq0, Nat.reduceAdd, Nat.zero_add]; try rfl))) | ((with_reducible refine r_pure (c_hlc_Compare _ _) ?_ hs.has ?_); (· kernel_rfl); intro w X hs1; replace hs := hs.trans hs1) | ((first | (with_reducible refine fin_ret0 hs ?_) | (with_reducible refine fin_ret0 (hs0.trans hs) ?_)); intro wa hk; simp_all) | ((with_reducible refine nx1_of ((x.writes).length - (i + 1)) ?_ ?_); (· omega); exact ⟨i + 1, by simp, rfl, by omega, hs, by rw [hw]; simp [*]⟩) | (refine r_ct0V (d_mvcc_Newest (h.mv (fun _ h => h) (Since.mv hs)) hs.has) (by kernel_rfl) hs.has ?_; intro w X hs1; replace hs := hs.trans hs1)
  · repeat' first | ((with_reducible refine r_lssF ?_ ?_); (· omega)) | with_reducible apply condW_F | ((first | (with_reducible refine fin_ret0 hs ?_) | (with_reducible refine fin_ret0 (hs0.trans hs) ?_)); intro wa hk; simp_all)
end Go.Proofs.YtpdkoaklobnegaaGreat
namespace Go.Proofs.YtpdkoaklobnegaaGreat
open Go.Eng
set_option maxRecDepth 100000
set_option maxHeartbeats 1000000
set_option linter.unusedVariables false
set_option linter.unusedSimpArgs false
attribute [local irreducible] un jn chk fld ld1 ldA st1 ixS lnS lnT bld cvI cvF ixA bsS apS rdV rdW grdW eW eV eU eC eF gE condW fin pickN nilN binS vS lp0 lp1 lp2 lp3 lp4 lp5 lp6 lp7 nx0 nx1 nx2 nx3 nx4 nx5 nx6 nx7
theorem d_mvcc_locked {w : World} {X A : XS} {sb kb pb : Nat} {hm : List (BA × List Ver)} {pm : List (Txn × Pend)} {low : Stamp} {x : Pend} {vr vw : Value}
    (h : StoreIs w X A sb kb pb hm pm low) (hX : ∀ k, X k → k < w.heap.size) (h1 : Sl w X 1 vr (x.reads.map S1)) (h2 : Sl w X 4 vw (x.writes.map KV.l)) :
    Ct Tryz.prog 318 #[ptr sb 0, x.v vr vw] w X nX fun v _ _ => v = B (pm.any fun q => x.clash q.2) := by
  intro w0 hk
  replace h := h.mv hX hk.mvo
  replace h1 := h1.mv hk.mvo
  replace h2 := h2.mv hk.mvo
  have hbx := h.box
  have hl1 := h1.len'
  have hl2 := h2.len'
  apply ok_mvcc_Store_locked; unfold vc_mvcc_Store_locked
  have hs := Since.init w0
  repeat' first | with_reducible apply r_nil | ((with_reducible apply m_fld1); (· (first | assumption | exact RowIs.cells (by assumption))); (· kernel_rfl); (· rfl); intro _ _ _) | ((with_reducible apply m_ld1); (· (first | assumption | exact RowIs.cells (by assumption))); (· (first | exact mv0 | exact mv1 (by assumption) | exact mv2 (by assumption) (by assumption))); (· kernel_rfl); (· rfl))
  refine m_range (kt := 33) (et := 229) h.pend rdPend.mv h.sub (by kernel_rfl) hs.has fun r w X hr hs1 hit => ?_
  replace hs := hs.trans hs1
  refine lp2_of (fun n _ _ w X => ∃ left, n = left.length ∧ Since (old w0) w0 X w ∧ ItR w X A r pb (fun k : Txn => k.v) rdPend pm left ∧ (pm.any fun q => x.clash q.2) = left.any fun q => x.clash q.2)
    pm.length ⟨pm, rfl, hs, hit, rfl⟩ ?_
  rintro n a b w X ⟨left, rfl, hs, hit, hw⟩
  refine m_next hit rdPend.mv (fun k hk => ⟨hs.sub k (h.sub k hk), fun e => by have : k < w0.heap.size := h.sub k hk; omega⟩) hs.has (fun e0 w X hs1 => ?_) fun kx q v hmem w1 X1 hc hrd hit1 he => ?_
  · replace hs := hs.trans hs1
    repeat' first | with_reducible apply condW_F | ((with_reducible apply m_ext); (· rfl)) | ((first | (with_reducible refine fin_ret0 hs ?_) | (with_reducible refine fin_ret0 (hs0.trans hs) ?_)); intro wa hk; (rw [hw, e0]; rfl))
  · have hs0 := hs.chg hc fun k hk e => by have : k < w0.heap.size := hk; omega
    obtain ⟨ur, uw, rfl, q1, q2⟩ := hrd
    have hA1 : ∀ k, A k → X1 k := fun k hk => hs0.sub k (h.sub k hk)
    replace q1 := q1.mv (Mv.sub hA1)
    replace q2 := q2.mv (Mv.sub hA1)
    have o1 := q1.one
    have o2 := q2.one
    rw [any_split _ hit.nodup hmem] at hw
    replace hs := Since.refl' hs0.has
    repeat' first | with_reducible apply condW_T | ((with_reducible apply m_ext); (· rfl))
    refine m_entry hs.has he fun w X hs1 => ?_
    replace hs := hs.trans hs1
    repeat' first | with_reducible apply un_box | ((with_reducible apply m_lnS); (· (first | assumption | exact Own.sl (by assumption))); (· kernel_rfl)) | ((with_reducible apply m_ext); (· rfl)) | ((with_reducible apply m_chkc); (case h => (repeat' first | with_reducible apply all_one_cons | with_reducible exact all_one_nil | assumption | rfl | exact Sl.one (by assumption) | exact Rws.one (by assumption) | exact Sl.one (Own.sl (by assumption))))) | ((with_reducible apply chk_T); (· first | rfl | assumption | exact Sl.one (by assumption) | exact Rws.one (by assumption) | exact Sl.one (Own.sl (by assumption))))
    refine lp1_of (fun n a w X => ∃ i : Nat, a = I (i : Nat) ∧ n = x.writes.length - i ∧ i ≤ x.writes.length ∧ Since X1 w1 X w ∧
      (x.writes.any (fun w => q.has w.key || q.reads.any fun k => decide (w.key = k)) = (x.writes.drop i).any (fun w => q.has w.key || q.reads.any fun k => decide (w.key = k)))) x.writes.length
      ⟨0, rfl, rfl, Nat.zero_le _, hs, by simp⟩ ?_
    rintro n a w X ⟨i, rfl, rfl, hi, hs, hw2⟩
    rcases at_or (x.writes) i with ⟨hlt, y, hy, hd⟩ | ⟨hge, hd⟩
    · rw [hd, List.any_cons] at hw2
      repeat' first | ((with_reducible refine r_lssT ?_ ?_); (· omega)) | with_reducible (first | apply condW_T | apply condW_F) | ((with_reducible apply un_cell); (· rfl)) | ((with_reducible apply m_sub); (· (simp only [Value.cells, nq1, nq2, nq3, nq4, nq5, nq6, setL, nq7, nq8, nq9, nq0, Nat.reduceAdd, Nat.zero_add]; try rfl))) | with_reducible (first | apply un_box | apply un_selF | apply un_selTF | apply rdW_pickT | apply rdW_pickF | apply gE_F | apply gE_TF) | ((with_reducible apply m_ldA); (· (first | assumption | exact RowIs.cells (by assumption))); (· (first | exact mv0 | exact mv1 (by assumption) | exact mv2 (by assumption) (by assumption))); (· kernel_rfl); (· rfl)) | ((with_reducible apply m_ixS); (· (first | assumption | exact Own.sl (by assumption))); (try (case hz => rfl)); (case hr => first | assumption | exact List.getElem?_eq_getElem (by omega)); (try (case hz => omega)); (case ht => kernel_rfl); (case hs => kernel_rfl); intro _ _ _) | ((with_reducible apply m_chkc); (case h => (repeat' first | with_reducible apply all_one_cons | with_reducible exact all_one_nil | assumption | rfl | exact Sl.one (by assumption) | exact Rws.one (by assumption) | exact Sl.one (Own.sl (by assumption))))) | ((with_reducible apply chk_T); (· first | rfl | assumption | exact Sl.one (by assumption) | exact Rws.one (by assumption) | exact Sl.one (Own.sl (by assumption)))) | ((with_reducible apply r_add); (· omega); (· omega)) | with_reducible apply jn_of | ((first | (with_reducible refine fin_ret0 hs ?_) | (with_reducible refine fin_ret0 (hs0.trans hs) ?_)); intro wa hk; (rw [hw]; simp [Pend.clash, hw2, *])) | ((with_reducible refine nx1_of ((x.writes).length - (i + 1)) ?_ ?_); (· omega); exact ⟨i + 1, by simp, rfl, by omega, hs, by rw [hw2]; simp [*]⟩) | (refine r_ct0B (d_mvcc_writes  (p := q) hs.has (by first | assumption | exact Sl.mv (by assumption) (by (first | exact mv0 | exact mv1 (by assumption) | exact mv2 (by assumption) (by assumption))) | exact Pends.mv (by assumption) (by (first | exact mv0 | exact mv1 (by assumption) | exact mv2 (by assumption) (by assumption))) | exact Hists.mv (by assumption) (by (first | exact mv0 | exact mv1 (by assumption) | exact mv2 (by assumption) (by assumption))) | exact Rec.at.mv (by assumption) (by (first | exact mv0 | exact mv1 (by assumption) | exact mv2 (by assumption) (by assumption))) | exact Own.sl (by assumption) | exact Cells.mv (by assumption) (by (first | exact mv0 | exact mv1 (by assumption) | exact mv2 (by assumption) (by assumption))) | exact Cells.mv (RowIs.cells (by assumption)) (by (first | exact mv0 | exact mv1 (by assumption) | exact mv2 (by assumption) (by assumption))) | omega)) (by kernel_rfl) hs.has ?_ ?_ <;> (intro _ w X hs1; replace hs := hs.trans hs1)) | (refine r_ct0B (d_contains_texts  (by first | assumption | exact Sl.mv (by assumption) (by (first | exact mv0 | exact mv1 (by assumption) | exact mv2 (by assumption) (by assumption))) | exact Pends.mv (by assumption) (by (first | exact mv0 | exact mv1 (by assumption) | exact mv2 (by assumption) (by assumption))) | exact Hists.mv (by assumption) (by (first | exact mv0 | exact mv1 (by assumption) | exact mv2 (by assumption) (by assumption))) | exact Rec.at.mv (by assumption) (by (first | exact mv0 | exact mv1 (by assumption) | exact mv2 (by assumption) (by assumption))) | exact Own.sl (by assumption) | exact Cells.mv (by assumption) (by (first | exact mv0 | exact mv1 (by assumption) | exact mv2 (by assumption) (by assumption))) | exact Cells.mv (RowIs.cells (by assumption)) (by (first | exact mv0 | exact mv1 (by assumption) | exact mv2 (by assumption) (by assumption))) | omega)) (by kernel_rfl) hs.has ?_ ?_ <;> (intro _ w X hs1; replace hs := hs.trans hs1))
    · rw [hd] at hw2
      repeat' first | ((with_reducible refine r_lssF ?_ ?_); (· omega)) | with_reducible apply condW_F | ((with_reducible apply m_lnS); (· (first | assumption | exact Own.sl (by assumption))); (· kernel_rfl))
      refine lp1_of (fun n a w X => ∃ i : Nat, a = I (i : Nat) ∧ n = x.reads.length - i ∧ i ≤ x.reads.length ∧ Since X1 w1 X w ∧
        (x.reads.any (fun k => q.has k) = (x.reads.drop i).any (fun k => q.has k))) x.reads.length
        ⟨0, rfl, rfl, Nat.zero_le _, hs, by simp⟩ ?_
      rintro n a w X ⟨j, rfl, rfl, hj, hs, hw3⟩
      rcases at_or x.reads j with ⟨hlt, y, hy, hd2⟩ | ⟨hge2, hd2⟩
      · rw [hd2, List.any_cons] at hw3
        repeat' first | ((with_reducible refine r_lssT ?_ ?_); (· omega)) | with_reducible (first | apply condW_T | apply condW_F) | ((with_reducible apply m_sub); (· (simp only [Value.cells, nq1, nq2, nq3, nq4, nq5, nq6, setL, nq7, nq8, nq9, nq0, Nat.reduceAdd, Nat.zero_add]; try rfl))) | ((with_reducible apply m_ld1); (· (first | assumption | exact RowIs.cells (by assumption))); (· (first | exact mv0 | exact mv1 (by assumption) | exact mv2 (by assumption) (by assumption))); (· kernel_rfl); (· rfl)) | ((with_reducible apply m_ixS); (· (first | assumption | exact Own.sl (by assumption))); (try (case hz => rfl)); (case hr => first | assumption | exact List.getElem?_eq_getElem (by omega)); (try (case hz => omega)); (case ht => kernel_rfl); (case hs => kernel_rfl); intro _ _ _) | ((with_reducible apply chk_T); (· first | rfl | assumption | exact Sl.one (by assumption) | exact Rws.one (by assumption) | exact Sl.one (Own.sl (by assumption)))) | ((with_reducible apply r_add); (· omega); (· omega)) | ((first | (with_reducible refine fin_ret0 hs ?_) | (with_reducible refine fin_ret0 (hs0.trans hs) ?_)); intro wa hk; (rw [hw]; simp [Pend.clash, hw3, *])) | ((with_reducible refine nx1_of (x.reads.length - (j + 1)) ?_ ?_); (· omega); exact ⟨j + 1, by simp, rfl, by omega, hs, by rw [hw3]; simp [*]⟩) | (refine r_ct0B (d_mvcc_writes  (p := q) hs.has (by first | assumption | exact Sl.mv (by assumption) (by (first | exact mv0 | exact mv1 (by assumption) | exact mv2 (by assumption) (by assumption))) | exact Pends.mv (by assumption) (by (first | exact mv0 | exact mv1 (by assumption) | exact mv2 (by assumption) (by assumption))) | exact Hists.mv (by assumption) (by (first | exact mv0 | exact mv1 (by assumption) | exact mv2 (by assumption) (by assumption))) | exact Rec.at.mv (by assumption) (by (first | exact mv0 | exact mv1 (by assumption) | exact mv2 (by assumption) (by assumption))) | exact Own.sl (by assumption) | exact Cells.mv (by assumption) (by (first | exact mv0 | exact mv1 (by assumption) | exact mv2 (by assumption) (by assumption))) | exact Cells.mv (RowIs.cells (by assumption)) (by (first | exact mv0 | exact mv1 (by assumption) | exact mv2 (by assumption) (by assumption))) | omega)) (by kernel_rfl) hs.has ?_ ?_ <;> (intro _ w X hs1; replace hs := hs.trans hs1))
      · rw [hd2] at hw3
        repeat' first | ((with_reducible refine r_lssF ?_ ?_); (· omega)) | with_reducible apply condW_F
        refine nx2_of _ (left_lt hmem) ⟨_, rfl, hs0.trans hs, hit1.mv rdPend.mv (Since.mv hs) (Since.mvA hs hA1), ?_⟩
        rw [hw]
        have : x.clash q = false := by unfold Pend.clash; rw [hw2, hw3]; rfl
        simp [this]
end Go.Proofs.YtpdkoaklobnegaaGreat
namespace Go.Proofs.YtpdkoaklobnegaaGreat
open Go.Eng
set_option maxRecDepth 100000
set_option maxHeartbeats 1000000
set_option linter.unusedVariables false
set_option linter.unusedSimpArgs false
attribute [local irreducible] un jn chk fld ld1 ldA st1 ixS lnS lnT bld cvI cvF ixA bsS apS rdV rdW grdW eW eV eU eC eF gE condW fin pickN nilN binS vS lp0 lp1 lp2 lp3 lp4 lp5 lp6 lp7 nx0 nx1 nx2 nx3 nx4 nx5 nx6 nx7
def Pend.fresh (wa w' : World) (v : Value) (p : Pend) : Prop :=
  ∃ vr vw, v = p.v vr vw ∧ Own w' (made wa w') wa.heap.size 9 1 vr (p.reads.map S1) ∧ Own w' (made wa w') wa.heap.size 53 4 vw (p.writes.map KV.l) ∧
    ∀ g, vr.ownBlock = some g → vw.ownBlock ≠ some g
theorem d_mvcc_clone {w : World} {X : XS} {p : Pend} {vr vw : Value} (h1 : Sl w X 1 vr (p.reads.map S1)) (h2 : Sl w X 4 vw (p.writes.map KV.l)) (hb1 : p.reads.length ≤ 2 ^ 40) (hb2 : p.writes.length ≤ 2 ^ 40) :
    Ct Tryz.prog 320 #[p.v vr vw] w X nX fun v wa w' => p.fresh wa w' v := by
    intro w0 hk
    replace h1 := h1.mv hk.mvo
    replace h2 := h2.mv hk.mvo
    apply ok_mvcc_clone; unfold vc_mvcc_clone
    have hs := Since.init w0
    refine r_ct0 (d_clone_texts h1 hb1) (by kernel_rfl) hs.has ?_
    rintro v1 wa w X ho1 hle1 hin1 hs1
    replace hs := hs.trans hs1
    have q1 := ho1.sl.one
    repeat' first | ((with_reducible apply chk_T); (· first | rfl | assumption | exact Sl.one (by assumption) | exact Rws.one (by assumption) | exact Sl.one (Own.sl (by assumption))))
    refine r_ct0 (d_clone_writes (h2.mv (Since.mv hs)) hb2) (by kernel_rfl) hs.has ?_
    rintro v2 wb w2 X2 ho2 hle2 hin2 hs2
    have hb : w0.heap.size ≤ wa.heap.size := hle1
    have ho1X : Own w X w0.heap.size 9 1 v1 (p.reads.map S1) := ho1.up hin1 hb
    have ho1' := ho1X.since hs2
    have hlo2 : w0.heap.size ≤ wb.heap.size := Nat.le_trans hs.kp.size hle2
    have ho2' : Own w2 X2 w0.heap.size 53 4 v2 (p.writes.map KV.l) := ho2.up hin2 hlo2
    have q2 := ho2.sl.one
    replace hs := hs.trans hs2
    repeat' first | ((with_reducible apply m_chkl); (case h => (repeat' first | with_reducible apply all_one_cons | with_reducible exact all_one_nil | assumption | rfl | exact Sl.one (by assumption) | exact Rws.one (by assumption) | exact Sl.one (Own.sl (by assumption))))) | ((with_reducible apply chk_T); (· first | rfl | assumption | exact Sl.one (by assumption) | exact Rws.one (by assumption) | exact Sl.one (Own.sl (by assumption)))) | ((first | (with_reducible refine fin_ret0 hs ?_) | (with_reducible refine fin_ret0 (hs0.trans hs) ?_)); intro wa hk; (exact ⟨v1, v2, rfl, (ho1'.kp hk).tight, (ho2'.kp hk).tight, fun g hg1 hg2 => by have := (ho1X.ge hg1).2; have := (ho2.ge hg2).1; omega⟩))
def mns (X : XS) (a b c : Nat) : XS := fun k => X k ∧ k ≠ a ∧ k ≠ b ∧ k ≠ c
theorem d_mvcc_New {w : World} {X : XS} : Ct Tryz.prog 315 #[] w X nX fun v wa w' =>
    ∃ sb kb pb, v = ptr sb 0 ∧ StoreIs w' (made wa w') (mns (made wa w') sb kb pb) sb kb pb [] [] .zero ∧ sb ≠ kb ∧ sb ≠ pb ∧ kb ≠ pb := by
  intro w0 hk
  apply ok_mvcc_New; unfold vc_mvcc_New
  have hs := Since.init w0
  refine m_makeMap (kv := fun s : BA => Value.string s) rdVers nX hs.has fun kb w1 X1 hkb hs1 hm1 => ?_
  refine m_makeMap (kv := fun k : Txn => k.v) rdPend nX hs1.has fun pb w2 X2 hpb hs2 hm2 => ?_
  have hkb1 := hm1.x
  have hpb1 := hm2.x
  have hm1' := hm1.mv rdVers.mv (Since.mv hs2) (Y := X2) (A' := nX) (fun _ h => h.elim)
  replace hs := (hs.trans hs1).trans hs2
  have hsz : w0.heap.size ≤ w1.heap.size := hs1.kp.size
  repeat' first | ((with_reducible apply r_bld); (· kernel_rfl)) | ((with_reducible apply m_boxA); (case hX => exact hs.has); intro bx w X hbx hs1 hrow; have hs0 := hs.trans hs1; replace hs := Since.refl' hs1.has)
  refine fin_ret0 (hs0.trans hs) ?_
  intro wa hk
  have hrl := (hrow.kp hk).lt
  have hsz3 := hs1.kp.size
  have hsz4 := hk.size
  have hkp2 := hs1.kp.trans (hk.less hs1.sub)
  have hkb2 : made w0 wa kb := ⟨hkb, by omega⟩
  have hpb2 : made w0 wa pb := ⟨by omega, by omega⟩
  exact ⟨bx, kb, pb, rfl, ⟨hrow.own.mv (Mv.one hk hrow.1 ⟨by omega, hrl⟩), hm1'.own.mv rdVers.mv (Mv.one hkp2 (hs2.sub _ hkb1.1) hkb2) (fun _ h => h.elim),
    hm2.own.mv rdPend.mv (Mv.one hkp2 hpb1.1 hpb2) (fun _ h => h.elim), fun k hk => hk.1, fun k hk => hk.2⟩, by omega, by omega, by omega⟩
end Go.Proofs.YtpdkoaklobnegaaGreat
namespace Go.Proofs.YtpdkoaklobnegaaGreat
open Go.Eng
set_option maxRecDepth 100000
set_option maxHeartbeats 1000000
set_option linter.unusedVariables false
set_option linter.unusedSimpArgs false
attribute [local irreducible] un jn chk fld ld1 ldA st1 ixS lnS lnT bld cvI cvF ixA bsS apS rdV rdW grdW eW eV eU eC eF gE condW fin pickN nilN binS vS lp0 lp1 lp2 lp3 lp4 lp5 lp6 lp7 nx0 nx1 nx2 nx3 nx4 nx5 nx6 nx7
def histsFrom : BA → List Hist → Bool
  | _, [] => true
  | a, h :: r => h.ok a && histsFrom h.key r
def putAll (l : List Hist) : List (BA × List Ver) := l.foldl (fun m h => putM h.key h.vers m) []
def pendGo (hm : List (BA × List Ver)) : List (Txn × Pend) → List Pend → Int
  | _, [] => 0
  | pm, p :: r => if p.err ≠ 0 then p.err else if (getM p.txn pm).isSome then 9 else if pm.any (fun q => p.clash q.2) then 18 else if oldFor hm p then 20
    else pendGo hm (putM p.txn p pm) r
def loadErr (hl : List Hist) (pl : List Pend) : Int := if histsFrom ⟨#[]⟩ hl then pendGo (putAll hl) [] pl else 4
theorem StoreIs.grow {w : World} {X A A' : XS} {sb kb pb : Nat} {hm : List (BA × List Ver)} {pm : List (Txn × Pend)} {low : Stamp} (h : StoreIs w X A sb kb pb hm pm low)
    (hA : ∀ k, A k → A' k) (hs : ∀ k, A' k → X k ∧ k ≠ sb ∧ k ≠ kb ∧ k ≠ pb) : StoreIs w X A' sb kb pb hm pm low :=
  ⟨h.box, h.keys.mv rdVers.mv (Mv.refl _ _) (Mv.sub hA), h.pend.mv rdPend.mv (Mv.refl _ _) (Mv.sub hA), fun k hk => (hs k hk).1, fun k hk => (hs k hk).2⟩
theorem StoreIs.to {w w' : World} {X Y : XS} {sb kb pb : Nat} {hm : List (BA × List Ver)} {pm : List (Txn × Pend)} {low : Stamp} (h : StoreIs w X (mns X sb kb pb) sb kb pb hm pm low)
    (hs : Since X w Y w') (hX : ∀ k, X k → k < w.heap.size) : StoreIs w' Y (mns Y sb kb pb) sb kb pb hm pm low :=
  (h.mv hX (Since.mv hs)).grow (fun k hk => ⟨hs.sub k hk.1, hk.2⟩) fun k hk => hk
def PSmall (l : List Pend) : Prop := ∀ p ∈ l, p.reads.length ≤ 2 ^ 40 ∧ p.writes.length ≤ 2 ^ 40
def HSmall (l : List Hist) : Prop := ∀ h ∈ l, h.vers.length ≤ 2 ^ 40
theorem d_mvcc_Load {w : World} {X : XS} {vh vp : Value} {hl : List Hist} {pl : List Pend} (h1 : Hists w X vh hl) (h2 : Pends w X vp pl) (hb1 : HSmall hl) (hb2 : PSmall pl) :
    Ct Tryz.prog 246 #[vh, vp] w X nX fun v _ _ => ∃ u : Value, v = .tuple #[u, I (loadErr hl pl)] := by
  intro w0 hk
  replace h1 := h1.mv hk.mvo
  replace h2 := h2.mv hk.mvo
  have hl1 := h1.len
  have hl2 := h2.len
  apply ok_mvcc_Load; unfold vc_mvcc_Load
  have hs := Since.init w0
  refine r_ct0 d_mvcc_New (by kernel_rfl) hs.has ?_
  rintro v wa w X ⟨sb, kb, pb, rfl, hst, ne1, ne2, ne3⟩ hle hin hs1
  have hsb : w0.heap.size ≤ sb := Nat.le_trans hle hst.box.1.1
  have hkb : w0.heap.size ≤ kb := Nat.le_trans hle hst.keys.x.1.1
  have hpb : w0.heap.size ≤ pb := Nat.le_trans hle hst.pend.x.1.1
  replace hs := hs.trans hs1
  have hst1 : StoreIs w X (mns X sb kb pb) sb kb pb [] [] .zero := (hst.mv (fun k hk => hk.2) (Mv.sub hin)).grow (fun k hk => ⟨hin k hk.1, hk.2⟩) fun k hk => hk
  clear hst
  repeat' first | ((with_reducible apply m_lnR); (· assumption); (· kernel_rfl))
  refine lp2_of (fun n a b w X => ∃ (i : Nat) (s : BA), a = I i ∧ b = .string s ∧ n = hl.length - i ∧ i ≤ hl.length ∧ Since (old w0) w0 X w ∧
    StoreIs w X (mns X sb kb pb) sb kb pb (putAll (hl.take i)) [] .zero ∧ histsFrom ⟨#[]⟩ hl = histsFrom s (hl.drop i)) hl.length
    ⟨0, ⟨#[]⟩, rfl, rfl, rfl, Nat.zero_le _, hs, hst1, by rw [List.drop_zero]⟩ ?_
  rintro n a b w X ⟨i, s, rfl, rfl, rfl, hi, hs0, hst, hw⟩
  have hs := Since.refl' hs0.has
  rcases at_or (hl) i with ⟨hlt, x, hx, hd⟩ | ⟨hge, hd⟩
  · rw [hd, histsFrom] at hw
    have hxs := hb1 x (List.mem_of_getElem? hx)
    have hbx := hst.box
    repeat' first | ((with_reducible refine r_lssT ?_ ?_); (· omega)) | with_reducible (first | apply condW_T | apply condW_F) | ((with_reducible apply un_cell); (· rfl)) | ((with_reducible apply m_sub); (· (simp only [Value.cells, nq1, nq2, nq3, nq4, nq5, nq6, setL, nq7, nq8, nq9, nq0, Nat.reduceAdd, Nat.zero_add]; try rfl))) | with_reducible (first | apply un_box | apply r_notT | apply r_notF | apply r_nil) | ((with_reducible apply m_fld1); (· (first | assumption | exact RowIs.cells (by assumption))); (· kernel_rfl); (· rfl); intro _ _ _) | ((with_reducible apply m_ld1); (· (first | assumption | exact RowIs.cells (by assumption))); (· (first | exact mv0 | exact mv1 (by assumption) | exact mv2 (by assumption) (by assumption))); (· kernel_rfl); (· rfl)) | ((with_reducible apply m_ldA); (· (first | assumption | exact RowIs.cells (by assumption))); (· (first | exact mv0 | exact mv1 (by assumption) | exact mv2 (by assumption) (by assumption))); (· kernel_rfl); (· rfl)) | ((with_reducible apply m_ixH); (· assumption); (try (case hz => rfl)); (case hr => first | assumption | exact List.getElem?_eq_getElem (by omega)); (try (case hz => omega)); (case ht => kernel_rfl); (case hs => kernel_rfl); intros) | ((with_reducible apply m_chkc); (case h => (repeat' first | with_reducible apply all_one_cons | with_reducible exact all_one_nil | assumption | rfl | exact Sl.one (by assumption) | exact Rws.one (by assumption) | exact Sl.one (Own.sl (by assumption))))) | ((with_reducible apply chk_T); (· first | rfl | assumption | exact Sl.one (by assumption) | exact Rws.one (by assumption) | exact Sl.one (Own.sl (by assumption)))) | (refine r_ct0B (d_mvcc_history (h := x) (ahead := s) (by first | assumption | exact Sl.mv (by assumption) (Since.mv (hs0.trans hs)))) (by kernel_rfl) hs.has ?_ ?_ <;> (intro _ w X hs1; replace hs := hs.trans hs1)) | (first | (with_reducible refine fin_ret0 (hs0.trans hs) ?_); intro wa hk; exact ⟨_, by rw [loadErr, hw]; simp [*]; rfl⟩)
    have hvv := ‹Sl w0 (old w0) 6 _ (x.vers.map Ver.l)›
    have hok := ‹x.ok s = true›
    refine r_ct0 (d_clone_versions (hvv.mv (Since.mv (hs0.trans hs))) hxs) (by kernel_rfl) hs.has ?_
    rintro v1 wa w2 X2 ho1 hle1 hin1 hs2
    have hsz1 := hs.kp.size
    have hst2 := hst.to (hs.trans hs2) hs0.has
    have hv1 : Sl w2 (mns X2 sb kb pb) 6 v1 (x.vers.map Ver.l) := ho1.sl.mv (Mv.sub fun k hk => ⟨hin1 k hk, by
      have q1 := hs0.has sb hst.box.1
      have q2 := hs0.has kb hst.keys.x.1
      have q3 := hs0.has pb hst.pend.x.1
      have := hk.1
      refine ⟨?_, ?_, ?_⟩ <;> omega⟩)
    replace hs := hs.trans hs2
    repeat' first | ((with_reducible apply un_cell); (· rfl))
    refine m_mapPut (kv := fun s : BA => Value.string s) (k := x.key) (et := 286) hst2.keys rdVers.mv hv1 (fun k hk => ⟨hk.1, hk.2.2.1⟩) key_text (by kernel_rfl) hs.has fun w3 X3 hc hm3 => ?_
    have hs3 := (hs0.trans hs).chg hc fun k hk e => by have : k < w0.heap.size := hk; omega
    have hst3 : StoreIs w3 X3 (mns X3 sb kb pb) sb kb pb (putAll (hl.take (i + 1))) [] .zero := by
      have hbx := hst2.box
      have hpm := hst2.pend
      have e : putAll (hl.take (i + 1)) = putM x.key x.vers (putAll (hl.take i)) := by
        rw [List.take_add_one, hx]; simp [putAll]
      rw [e]
      have mo : ∀ b, X2 b → b ≠ kb → Mv (fun k => k = b) w2 X3 w3 := fun b hb hne k hk' _ => by subst hk'; exact ⟨hc.sub _ hb, hc.block _ hb hne⟩
      exact ⟨hbx.own.mv (mo _ hbx.1 ne1), hm3.mv rdVers.mv (Mv.refl _ _) (Mv.sub fun k hk => ⟨hc.sub k hk.1, hk.2⟩),
        hpm.own.mv rdPend.mv (mo _ hpm.x.1 ne3.symm) (fun k hk _ => ⟨⟨hc.sub k hk.1, hk.2⟩, hc.block k hk.1 hk.2.2.1⟩), fun k hk => hk.1, fun k hk => hk.2⟩
    replace hs := hs3
    repeat' first | ((with_reducible apply chk_T); (· first | rfl | assumption | exact Sl.one (by assumption) | exact Rws.one (by assumption) | exact Sl.one (Own.sl (by assumption)))) | ((with_reducible apply r_add); (· omega); (· omega)) | ((with_reducible refine nx2_of ((hl).length - (i + 1)) ?_ ?_); (· omega); exact ⟨i + 1, x.key, by simp, rfl, rfl, by omega, hs, hst3, by rw [hw, hok]; rfl⟩)
  · have hlen : hl.take i = hl := List.take_of_length_le hge
    rw [hd] at hw
    rw [hlen] at hst
    repeat' first | ((with_reducible refine r_lssF ?_ ?_); (· omega)) | with_reducible apply condW_F | ((with_reducible apply m_lnR); (· assumption); (· kernel_rfl))
    refine lp1_of (fun n a w X => ∃ (i : Nat) (pm : List (Txn × Pend)), a = I i ∧ n = pl.length - i ∧ i ≤ pl.length ∧ Since (old w0) w0 X w ∧
      StoreIs w X (mns X sb kb pb) sb kb pb (putAll hl) pm .zero ∧ loadErr hl pl = pendGo (putAll hl) pm (pl.drop i)) pl.length
      ⟨0, [], rfl, rfl, Nat.zero_le _, hs0, hst, by rw [List.drop_zero, loadErr, hw]; rfl⟩ ?_
    rintro n a w X ⟨j, pm, rfl, rfl, hj, hs0, hst, hw2⟩
    have hs := Since.refl' hs0.has
    rcases at_or pl j with ⟨hlt2, x, hx, hd2⟩ | ⟨hge2, hd2⟩
    · rw [hd2, pendGo] at hw2
      have hxs := hb2 x (List.mem_of_getElem? hx)
      have hbx := hst.box
      repeat' first | ((with_reducible refine r_lssT ?_ ?_); (· omega)) | with_reducible apply condW_T | ((with_reducible apply m_sub); (· (simp only [Value.cells, nq1, nq2, nq3, nq4, nq5, nq6, setL, nq7, nq8, nq9, nq0, Nat.reduceAdd, Nat.zero_add]; try rfl))) | with_reducible (first | apply un_box | apply r_nil) | ((with_reducible apply m_fld1); (· (first | assumption | exact RowIs.cells (by assumption))); (· kernel_rfl); (· rfl); intro _ _ _) | ((with_reducible apply m_ld1); (· (first | assumption | exact RowIs.cells (by assumption))); (· (first | exact mv0 | exact mv1 (by assumption) | exact mv2 (by assumption) (by assumption))); (· kernel_rfl); (· rfl)) | ((with_reducible apply m_ldA); (· (first | assumption | exact RowIs.cells (by assumption))); (· (first | exact mv0 | exact mv1 (by assumption) | exact mv2 (by assumption) (by assumption))); (· kernel_rfl); (· rfl)) | ((with_reducible apply m_ixP); (· assumption); (try (case hz => rfl)); (case hr => first | assumption | exact List.getElem?_eq_getElem (by omega)); (try (case hz => omega)); (case ht => kernel_rfl); (case hs => kernel_rfl); intros) | ((with_reducible apply m_chkc); (case h => (repeat' first | with_reducible apply all_one_cons | with_reducible exact all_one_nil | assumption | rfl | exact Sl.one (by assumption) | exact Rws.one (by assumption) | exact Sl.one (Own.sl (by assumption))))) | ((with_reducible apply chk_T); (· first | rfl | assumption | exact Sl.one (by assumption) | exact Rws.one (by assumption) | exact Sl.one (Own.sl (by assumption)))) | (refine r_ct0V (d_mvcc_PendingMay (p := x) (by first | assumption | exact Sl.mv (by assumption) (Since.mv (hs0.trans hs))) (by first | assumption | exact Sl.mv (by assumption) (Since.mv (hs0.trans hs))) hxs.2) (by kernel_rfl) hs.has ?_; intro w X hs1; replace hs := hs.trans hs1)
      refine m_mapGet (kv := fun k : Txn => k.v) (k := x.txn) (kt := 33) (et := 229) (.agg #[I 0, I 0, I 0, I 0, I 0, I 0, .slice none 0 0, .slice none 0 0]) (hst.mv hs0.has (Since.mv hs)).pend key_txn (by kernel_rfl) (by kernel_rfl) (fun v q hg hrd => ?_) fun hg => ?_
      · obtain ⟨ur, uw, rfl, q1, q2⟩ := hrd
        have o1 := q1.one
        have o2 := q2.one
        repeat' first | with_reducible (first | apply condW_T | apply condW_F | apply un_box) | (with_reducible apply r_neq <;> intro _) | ((with_reducible apply m_ext); (· rfl)) | ((with_reducible apply m_chkc); (case h => (repeat' first | with_reducible apply all_one_cons | with_reducible exact all_one_nil | assumption | rfl | exact Sl.one (by assumption) | exact Rws.one (by assumption) | exact Sl.one (Own.sl (by assumption))))) | ((with_reducible apply chk_T); (· first | rfl | assumption | exact Sl.one (by assumption) | exact Rws.one (by assumption) | exact Sl.one (Own.sl (by assumption)))) | (first | (with_reducible refine fin_ret0 (hs0.trans hs) ?_); intro wa hk; exact ⟨_, by rw [hw2]; simp [*]; rfl⟩)
      · repeat' first | with_reducible (first | apply condW_T | apply condW_F | apply un_box | apply r_nil) | (with_reducible apply r_neq <;> intro _) | ((with_reducible apply m_fld1); (· (first | assumption | exact RowIs.cells (by assumption))); (· kernel_rfl); (· rfl); intro _ _ _) | ((with_reducible apply m_ld1); (· (first | assumption | exact RowIs.cells (by assumption))); (· (first | exact mv0 | exact mv1 (by assumption) | exact mv2 (by assumption) (by assumption))); (· kernel_rfl); (· rfl)) | ((with_reducible apply m_ext); (· rfl)) | ((with_reducible apply m_chkc); (case h => (repeat' first | with_reducible apply all_one_cons | with_reducible exact all_one_nil | assumption | rfl | exact Sl.one (by assumption) | exact Rws.one (by assumption) | exact Sl.one (Own.sl (by assumption))))) | ((with_reducible apply chk_T); (· first | rfl | assumption | exact Sl.one (by assumption) | exact Rws.one (by assumption) | exact Sl.one (Own.sl (by assumption)))) | (first | (with_reducible refine fin_ret0 (hs0.trans hs) ?_); intro wa hk; exact ⟨_, by rw [hw2]; simp [*]; rfl⟩) | (refine r_ct0B (d_mvcc_locked (x := x) (hst.mv hs0.has (Since.mv hs)) hs.has (by first | assumption | exact Sl.mv (by assumption) (Since.mv (hs0.trans hs))) (by first | assumption | exact Sl.mv (by assumption) (Since.mv (hs0.trans hs)))) (by kernel_rfl) hs.has ?_ ?_ <;> (intro _ w X hs1; replace hs := hs.trans hs1)) | (refine r_ct0B (d_mvcc_old (x := x) (hst.mv hs0.has (Since.mv hs)) hs.has (by first | assumption | exact Sl.mv (by assumption) (Since.mv (hs0.trans hs)))) (by kernel_rfl) hs.has ?_ ?_ <;> (intro _ w X hs1; replace hs := hs.trans hs1))
        have he : x.err = 0 := ‹x.err = 0›
        have hc18 : (pm.any fun q => x.clash q.snd) = false := ‹_›
        have hc20 : oldFor (putAll hl) x = false := ‹_›
        refine r_ct0 (d_mvcc_clone (p := x) (by first | exact Sl.mv (by assumption) (Since.mv (hs0.trans hs))) (by first | exact Sl.mv (by assumption) (Since.mv (hs0.trans hs))) hxs.1 hxs.2) (by kernel_rfl) hs.has ?_
        rintro v1 wa w2 X2 ⟨ur, uw, rfl, ho1, ho2, -⟩ hle1 hin1 hs2
        have hsz1 := hs.kp.size
        have hst2 := hst.to (hs.trans hs2) hs0.has
        have hup : ∀ k, made wa w2 k → mns X2 sb kb pb k := fun k hk => ⟨hin1 k hk, by
          have q1 := hs0.has sb hst.box.1
          have q2 := hs0.has kb hst.keys.x.1
          have q3 := hs0.has pb hst.pend.x.1
          have := hk.1
          refine ⟨?_, ?_, ?_⟩ <;> omega⟩
        have hv1 : rdPend w2 (mns X2 sb kb pb) (x.v ur uw) x := ⟨ur, uw, rfl, ho1.sl.mv (Mv.sub hup), ho2.sl.mv (Mv.sub hup)⟩
        replace hs := hs.trans hs2
        refine m_mapPut (kv := fun k : Txn => k.v) (k := x.txn) (et := 229) hst2.pend rdPend.mv hv1 (fun k hk => ⟨hk.1, hk.2.2.2⟩) key_txn (by kernel_rfl) hs.has fun w3 X3 hc hm3 => ?_
        have hs3 := (hs0.trans hs).chg hc fun k hk e => by have : k < w0.heap.size := hk; omega
        have hst3 : StoreIs w3 X3 (mns X3 sb kb pb) sb kb pb (putAll hl) (putM x.txn x pm) .zero := by
          have hbx := hst2.box
          have hkm := hst2.keys
          have mo : ∀ b, X2 b → b ≠ pb → Mv (fun k => k = b) w2 X3 w3 := fun b hb hne k hk' _ => by subst hk'; exact ⟨hc.sub _ hb, hc.block _ hb hne⟩
          exact ⟨hbx.own.mv (mo _ hbx.1 ne2), hkm.own.mv rdVers.mv (mo _ hkm.x.1 ne3) (fun k hk _ => ⟨⟨hc.sub k hk.1, hk.2⟩, hc.block k hk.1 hk.2.2.2⟩),
            hm3.mv rdPend.mv (Mv.refl _ _) (Mv.sub fun k hk => ⟨hc.sub k hk.1, hk.2⟩), fun k hk => hk.1, fun k hk => hk.2⟩
        replace hs := hs3
        repeat' first | ((with_reducible apply r_add); (· omega); (· omega)) | ((with_reducible refine nx1_of (pl.length - (j + 1)) ?_ ?_); (· omega); exact ⟨j + 1, _, by simp, rfl, by omega, hs, hst3, by rw [hw2]; simp [he, hg, hc18, hc20]⟩)
    · rw [hd2] at hw2
      repeat' first | ((with_reducible refine r_lssF ?_ ?_); (· omega)) | with_reducible apply condW_F | (first | (with_reducible refine fin_ret0 (hs0.trans hs) ?_); intro wa hk; exact ⟨_, by rw [hw2]; rfl⟩)
end Go.Proofs.YtpdkoaklobnegaaGreat
namespace Go.Proofs.YtpdkoaklobnegaaGreat
open Go.Eng
set_option maxRecDepth 100000
set_option maxHeartbeats 1000000
set_option linter.unusedVariables false
set_option linter.unusedSimpArgs false
attribute [local irreducible] un jn chk fld ld1 ldA st1 ixS lnS lnT bld cvI cvF ixA bsS apS rdV rdW grdW eW eV eU eC eF gE condW fin pickN nilN binS vS lp0 lp1 lp2 lp3 lp4 lp5 lp6 lp7 nx0 nx1 nx2 nx3 nx4 nx5 nx6 nx7
def HKeys (l : List Hist) : Prop := ∀ h ∈ l, h.key.size ≤ 2 ^ 40
def PKeys (l : List Pend) : Prop := ∀ p ∈ l, (∀ k ∈ p.reads, k.size ≤ 2 ^ 40) ∧ ∀ x ∈ p.writes, x.key.size ≤ 2 ^ 40
structure State.small (s : State) : Prop where
  h : HSmall s.hists
  p : PSmall s.pend
  hk : HKeys s.hists
  pk : PKeys s.pend
structure Rec.small (r : Rec) : Prop where
  reads : r.reads.length ≤ 2 ^ 40
  writes : r.writes.length ≤ 2 ^ 40
  rk : ∀ k ∈ r.reads, k.size ≤ 2 ^ 40
  wk : ∀ x ∈ r.writes, x.key.size ≤ 2 ^ 40
  state : r.state.small
def Rng.has (r : Rng) (x : Nat) : Bool := (fgt x r.lo || feq x r.lo) && flt x r.hi
def Rng.key (r : Rng) (k : BA) : Bool := r.has (placeOf k)
def State.inside (s : State) : Bool := s.hists.all (fun h => s.range.key h.key) && s.pend.all fun p => p.reads.all s.range.key && p.writes.all fun x => s.range.key x.key
def State.may (s : State) : Bool := s.range.may && s.floor.may && s.closed.may && decide (loadErr s.hists s.pend = 0) && s.inside
theorem d_recs_StateMay_c1 {w : World} {X : XS} {s : State} {vh vp : Value} {k : BA} {b : Nat} (h : Cells w X b 0 (s.l vh vp)) (hk' : k.size ≤ 2 ^ 62) :
    Ct Tryz.prog 247 #[.string k, ptr b 0] w X nX fun v _ _ => v = B (s.range.key k) := by
  intro w0 hk
  replace h := h.mv hk.mvo
  apply ok_recs_StateMay_c1; unfold vc_recs_StateMay_c1
  have hs := Since.init w0
  repeat' first | ((with_reducible apply m_fld); (· (first | assumption | exact RowIs.cells (by assumption))); (· kernel_rfl); (· rfl); (· (simp only [Value.cells, nq1, nq2, nq3, nq4, nq5, nq6, setL, nq7, nq8, nq9, nq0, Nat.reduceAdd, Nat.zero_add]; try rfl)); intro _ _ _) | ((with_reducible apply m_ldA); (· (first | assumption | exact RowIs.cells (by assumption))); (· (first | exact mv0 | exact mv1 (by assumption) | exact mv2 (by assumption) (by assumption))); (· kernel_rfl); (· rfl)) | ((with_reducible refine r_pureB (c_place_In _ _) ?_ hs.has ?_ ?_); (· kernel_rfl); all_goals (intro _ w X hs1; replace hs := hs.trans hs1)) | ((with_reducible refine r_pure (c_place_Of _ (by first | assumption | omega)) ?_ hs.has ?_); (· kernel_rfl); intro w X hs1; replace hs := hs.trans hs1) | ((first | (with_reducible refine fin_ret0 hs ?_) | (with_reducible refine fin_ret0 (hs0.trans hs) ?_)); intro wa hk; (simp [Rng.key, Rng.has, *]))
theorem d_recs_StateMay {w : World} {X : XS} {s : State} {vh vp : Value} (h1 : Hists w X vh s.hists) (h2 : Pends w X vp s.pend) (hsm : s.small) :
    Ct Tryz.prog 167 #[s.v vh vp] w X nX fun v _ _ => v = B s.may := by
  intro w0 hk
  replace h1 := h1.mv hk.mvo
  replace h2 := h2.mv hk.mvo
  have hl1 := h1.len
  have hl2 := h2.len
  have o1 := h1.one
  have o2 := h2.one
  apply ok_recs_StateMay; unfold vc_recs_StateMay
  have hs := Since.init w0
  repeat' first | with_reducible (first | apply condW_T | apply condW_F | apply grdV_onF | apply grdW_offF | apply rdW_pickT | apply rdW_pickF | apply gE_F | apply gE_TF | apply r_notT | apply r_notF) | (with_reducible apply r_neq <;> intro _) | ((with_reducible apply m_fld1); (· (first | assumption | exact RowIs.cells (by assumption))); (· kernel_rfl); (· rfl); intro _ _ _) | ((with_reducible apply m_fld); (· (first | assumption | exact RowIs.cells (by assumption))); (· kernel_rfl); (· rfl); (· (simp only [Value.cells, nq1, nq2, nq3, nq4, nq5, nq6, setL, nq7, nq8, nq9, nq0, Nat.reduceAdd, Nat.zero_add]; try rfl)); intro _ _ _) | ((with_reducible apply m_ld1); (· (first | assumption | exact RowIs.cells (by assumption))); (· (first | exact mv0 | exact mv1 (by assumption) | exact mv2 (by assumption) (by assumption))); (· kernel_rfl); (· rfl)) | ((with_reducible apply m_ldA); (· (first | assumption | exact RowIs.cells (by assumption))); (· (first | exact mv0 | exact mv1 (by assumption) | exact mv2 (by assumption) (by assumption))); (· kernel_rfl); (· rfl)) | ((with_reducible apply m_lnR); (· assumption); (· kernel_rfl)) | ((with_reducible apply m_ext); (· rfl)) | ((with_reducible apply m_boxA); (case hX => exact hs.has); intro bx w X hbx hs1 hrow; have hs0 := hs.trans hs1; replace hs := Since.refl' hs1.has) | (with_reducible apply m_mkFun) | with_reducible apply jn_of | ((with_reducible refine r_pureB (c_hlc_May _) ?_ hs.has ?_ ?_); (· kernel_rfl); all_goals (intro _ w X hs1; replace hs := hs.trans hs1)) | ((with_reducible refine r_pureB (c_place_May _) ?_ hs.has ?_ ?_); (· kernel_rfl); all_goals (intro _ w X hs1; replace hs := hs.trans hs1)) | ((first | (with_reducible refine fin_ret0 hs ?_) | (with_reducible refine fin_ret0 (hs0.trans hs) ?_)); intro wa hk; (simp [State.may, *])) | (refine r_ct0 ((d_mvcc_Load (hl := s.hists) (pl := s.pend))  (by first | assumption | exact Sl.mv (by assumption) (by (first | exact mv0 | exact mv1 (by assumption) | exact mv2 (by assumption) (by assumption))) | exact Pends.mv (by assumption) (by (first | exact mv0 | exact mv1 (by assumption) | exact mv2 (by assumption) (by assumption))) | exact Hists.mv (by assumption) (by (first | exact mv0 | exact mv1 (by assumption) | exact mv2 (by assumption) (by assumption))) | exact Rec.at.mv (by assumption) (by (first | exact mv0 | exact mv1 (by assumption) | exact mv2 (by assumption) (by assumption))) | exact Own.sl (by assumption) | exact Cells.mv (by assumption) (by (first | exact mv0 | exact mv1 (by assumption) | exact mv2 (by assumption) (by assumption))) | exact Cells.mv (RowIs.cells (by assumption)) (by (first | exact mv0 | exact mv1 (by assumption) | exact mv2 (by assumption) (by assumption))) | omega) (by first | assumption | exact Sl.mv (by assumption) (by (first | exact mv0 | exact mv1 (by assumption) | exact mv2 (by assumption) (by assumption))) | exact Pends.mv (by assumption) (by (first | exact mv0 | exact mv1 (by assumption) | exact mv2 (by assumption) (by assumption))) | exact Hists.mv (by assumption) (by (first | exact mv0 | exact mv1 (by assumption) | exact mv2 (by assumption) (by assumption))) | exact Rec.at.mv (by assumption) (by (first | exact mv0 | exact mv1 (by assumption) | exact mv2 (by assumption) (by assumption))) | exact Own.sl (by assumption) | exact Cells.mv (by assumption) (by (first | exact mv0 | exact mv1 (by assumption) | exact mv2 (by assumption) (by assumption))) | exact Cells.mv (RowIs.cells (by assumption)) (by (first | exact mv0 | exact mv1 (by assumption) | exact mv2 (by assumption) (by assumption))) | omega) hsm.h hsm.p) (by kernel_rfl) hs.has ?_; rintro _ wa w X ⟨u, rfl⟩ hle hin hs1; have hlo := Nat.le_trans hs.kp.size hle; replace hs := hs.trans hs1)
  have hc1 : ∀ k : BA, k.size ≤ 2 ^ 40 → ∀ w X, Since _ _ X w → Ct Tryz.prog 247 #[.string k, ptr bx 0] w X nX fun v _ _ => v = B (s.range.key k) := fun k hk w X hs => d_recs_StateMay_c1 (hrow.since hs).cells (by omega)
  have hin0 : s.may = s.inside := by simp [State.may, *]
  refine lp1_of (fun n a w X => ∃ i : Nat, a = I (i : Nat) ∧ n = s.hists.length - i ∧ i ≤ s.hists.length ∧ Since _ _ X w ∧
    (s.hists.all (fun h => s.range.key h.key)) = ((s.hists.drop i).all fun h => s.range.key h.key)) s.hists.length ⟨0, rfl, rfl, Nat.zero_le _, hs, by simp⟩ ?_
  rintro n a w X ⟨i, rfl, rfl, hi, hs, hw⟩
  rcases at_or (s.hists) i with ⟨hlt, x, hx, hd⟩ | ⟨hge, hd⟩
  · rw [hd, List.all_cons] at hw
    have hkx := hsm.hk x (List.mem_of_getElem? hx)
    repeat' first | ((with_reducible refine r_lssT ?_ ?_); (· omega)) | with_reducible (first | apply condW_T | apply condW_F) | ((with_reducible apply un_cell); (· rfl)) | with_reducible (first | apply un_box | apply r_notT | apply r_notF) | ((with_reducible apply m_ldA); (· (first | assumption | exact RowIs.cells (by assumption))); (· (first | exact mv0 | exact mv1 (by assumption) | exact mv2 (by assumption) (by assumption))); (· kernel_rfl); (· rfl)) | ((with_reducible apply m_ixH); (· assumption); (try (case hz => rfl)); (case hr => first | assumption | exact List.getElem?_eq_getElem (by omega)); (try (case hz => omega)); (case ht => kernel_rfl); (case hs => kernel_rfl); intros) | ((with_reducible apply m_chkc); (case h => (repeat' first | with_reducible apply all_one_cons | with_reducible exact all_one_nil | assumption | rfl | exact Sl.one (by assumption) | exact Rws.one (by assumption) | exact Sl.one (Own.sl (by assumption))))) | ((with_reducible apply chk_T); (· first | rfl | assumption | exact Sl.one (by assumption) | exact Rws.one (by assumption) | exact Sl.one (Own.sl (by assumption)))) | ((with_reducible apply r_add); (· omega); (· omega)) | ((with_reducible apply m_fun); (· rfl)) | ((first | (with_reducible refine fin_ret0 hs ?_) | (with_reducible refine fin_ret0 (hs0.trans hs) ?_)); intro wa hk; (simp [hin0, State.inside, hw, *])) | (refine r_ct0B (hc1 x.key hkx _ _ hs) (by kernel_rfl) hs.has ?_ ?_ <;> (intro _ w X hs1; replace hs := hs.trans hs1)) | ((with_reducible refine nx1_of ((s.hists).length - (i + 1)) ?_ ?_); (· omega); exact ⟨i + 1, by simp, rfl, by omega, hs, by rw [hw]; simp [*]⟩)
  · rw [hd] at hw
    repeat' first | ((with_reducible refine r_lssF ?_ ?_); (· omega)) | with_reducible apply condW_F | ((with_reducible apply m_fld1); (· (first | assumption | exact RowIs.cells (by assumption))); (· kernel_rfl); (· rfl); intro _ _ _) | ((with_reducible apply m_ld1); (· (first | assumption | exact RowIs.cells (by assumption))); (· (first | exact mv0 | exact mv1 (by assumption) | exact mv2 (by assumption) (by assumption))); (· kernel_rfl); (· rfl)) | ((with_reducible apply m_lnR); (· assumption); (· kernel_rfl))
    refine lp3_of (fun n a _ _ w X => ∃ i : Nat, a = I (i : Nat) ∧ n = s.pend.length - i ∧ i ≤ s.pend.length ∧ Since _ _ X w ∧
      (s.pend.all fun p => p.reads.all s.range.key && p.writes.all fun x => s.range.key x.key) = ((s.pend.drop i).all fun p => p.reads.all s.range.key && p.writes.all fun x => s.range.key x.key)) s.pend.length ⟨0, rfl, rfl, Nat.zero_le _, hs, by simp⟩ ?_
    rintro n a a2 a3 w X ⟨j, rfl, rfl, hj, hs, hw2⟩
    rcases at_or s.pend j with ⟨hlt, p, hp, hd2⟩ | ⟨hge2, hd2⟩
    · rw [hd2, List.all_cons] at hw2
      obtain ⟨hr1, hr2⟩ := hsm.pk p (List.mem_of_getElem? hp)
      repeat' first | ((with_reducible refine r_lssT ?_ ?_); (· omega)) | with_reducible apply condW_T | ((with_reducible apply un_cell); (· rfl)) | with_reducible apply un_box | ((with_reducible apply m_ldA); (· (first | assumption | exact RowIs.cells (by assumption))); (· (first | exact mv0 | exact mv1 (by assumption) | exact mv2 (by assumption) (by assumption))); (· kernel_rfl); (· rfl)) | ((with_reducible apply m_lnS); (· (first | assumption | exact Own.sl (by assumption))); (· kernel_rfl)) | ((with_reducible apply m_ixP); (· assumption); (try (case hz => rfl)); (case hr => first | assumption | exact List.getElem?_eq_getElem (by omega)); (try (case hz => omega)); (case ht => kernel_rfl); (case hs => kernel_rfl); intros) | ((with_reducible apply m_chkc); (case h => (repeat' first | with_reducible apply all_one_cons | with_reducible exact all_one_nil | assumption | rfl | exact Sl.one (by assumption) | exact Rws.one (by assumption) | exact Sl.one (Own.sl (by assumption))))) | ((with_reducible apply chk_T); (· first | rfl | assumption | exact Sl.one (by assumption) | exact Rws.one (by assumption) | exact Sl.one (Own.sl (by assumption))))
      have hl3 := Sl.len' ‹Sl w0 (old w0) 1 _ (p.reads.map S1)›
      have hl4 := Sl.len' ‹Sl w0 (old w0) 4 _ (p.writes.map KV.l)›
      refine lp1_of (fun n a w X => ∃ i : Nat, a = I (i : Nat) ∧ n = p.reads.length - i ∧ i ≤ p.reads.length ∧ Since _ _ X w ∧ p.reads.all s.range.key = (p.reads.drop i).all s.range.key) p.reads.length ⟨0, rfl, rfl, Nat.zero_le _, hs, by simp⟩ ?_
      rintro n a w X ⟨k, rfl, rfl, hk3, hs, hw3⟩
      rcases at_or p.reads k with ⟨hlt3, y, hy, hd3⟩ | ⟨hge3, hd3⟩
      · rw [hd3, List.all_cons] at hw3
        have hky := hr1 y (List.mem_of_getElem? hy)
        repeat' first | ((with_reducible refine r_lssT ?_ ?_); (· omega)) | with_reducible (first | apply condW_T | apply condW_F | apply r_notT | apply r_notF) | ((with_reducible apply m_ld1); (· (first | assumption | exact RowIs.cells (by assumption))); (· (first | exact mv0 | exact mv1 (by assumption) | exact mv2 (by assumption) (by assumption))); (· kernel_rfl); (· rfl)) | ((with_reducible apply m_ixS); (· (first | assumption | exact Own.sl (by assumption))); (try (case hz => rfl)); (case hr => first | assumption | exact List.getElem?_eq_getElem (by omega)); (try (case hz => omega)); (case ht => kernel_rfl); (case hs => kernel_rfl); intro _ _ _) | ((with_reducible apply r_add); (· omega); (· omega)) | ((with_reducible apply m_fun); (· rfl)) | ((first | (with_reducible refine fin_ret0 hs ?_) | (with_reducible refine fin_ret0 (hs0.trans hs) ?_)); intro wa hk; (simp [hin0, State.inside, hw2, hw3, *])) | (refine r_ct0B (hc1 y hky _ _ hs) (by kernel_rfl) hs.has ?_ ?_ <;> (intro _ w X hs1; replace hs := hs.trans hs1)) | ((with_reducible refine nx1_of (p.reads.length - (k + 1)) ?_ ?_); (· omega); exact ⟨k + 1, by simp, rfl, by omega, hs, by rw [hw3]; simp [*]⟩)
      · rw [hd3] at hw3
        repeat' first | ((with_reducible refine r_lssF ?_ ?_); (· omega)) | with_reducible apply condW_F | ((with_reducible apply un_cell); (· rfl)) | ((with_reducible apply m_lnS); (· (first | assumption | exact Own.sl (by assumption))); (· kernel_rfl)) | ((with_reducible apply chk_T); (· first | rfl | assumption | exact Sl.one (by assumption) | exact Rws.one (by assumption) | exact Sl.one (Own.sl (by assumption))))
        refine lp1_of (fun n a w X => ∃ i : Nat, a = I (i : Nat) ∧ n = p.writes.length - i ∧ i ≤ p.writes.length ∧ Since _ _ X w ∧ (p.writes.all fun x => s.range.key x.key) = (p.writes.drop i).all fun x => s.range.key x.key) p.writes.length ⟨0, rfl, rfl, Nat.zero_le _, hs, by simp⟩ ?_
        rintro n a w X ⟨m, rfl, rfl, hm, hs, hw4⟩
        rcases at_or p.writes m with ⟨hlt4, y, hy, hd4⟩ | ⟨hge4, hd4⟩
        · rw [hd4, List.all_cons] at hw4
          have hky := hr2 y (List.mem_of_getElem? hy)
          repeat' first | ((with_reducible refine r_lssT ?_ ?_); (· omega)) | with_reducible (first | apply condW_T | apply condW_F) | ((with_reducible apply un_cell); (· rfl)) | with_reducible (first | apply un_box | apply r_notT | apply r_notF) | ((with_reducible apply m_ldA); (· (first | assumption | exact RowIs.cells (by assumption))); (· (first | exact mv0 | exact mv1 (by assumption) | exact mv2 (by assumption) (by assumption))); (· kernel_rfl); (· rfl)) | ((with_reducible apply m_ixS); (· (first | assumption | exact Own.sl (by assumption))); (try (case hz => rfl)); (case hr => first | assumption | exact List.getElem?_eq_getElem (by omega)); (try (case hz => omega)); (case ht => kernel_rfl); (case hs => kernel_rfl); intro _ _ _) | ((with_reducible apply m_chkc); (case h => (repeat' first | with_reducible apply all_one_cons | with_reducible exact all_one_nil | assumption | rfl | exact Sl.one (by assumption) | exact Rws.one (by assumption) | exact Sl.one (Own.sl (by assumption))))) | ((with_reducible apply chk_T); (· first | rfl | assumption | exact Sl.one (by assumption) | exact Rws.one (by assumption) | exact Sl.one (Own.sl (by assumption)))) | ((with_reducible apply r_add); (· omega); (· omega)) | ((with_reducible apply m_fun); (· rfl)) | ((first | (with_reducible refine fin_ret0 hs ?_) | (with_reducible refine fin_ret0 (hs0.trans hs) ?_)); intro wa hk; (simp [hin0, State.inside, hw2, hw3, hw4, *])) | (refine r_ct0B (hc1 y.key hky _ _ hs) (by kernel_rfl) hs.has ?_ ?_ <;> (intro _ w X hs1; replace hs := hs.trans hs1)) | ((with_reducible refine nx1_of (p.writes.length - (m + 1)) ?_ ?_); (· omega); exact ⟨m + 1, by simp, rfl, by omega, hs, by rw [hw4]; simp [*]⟩)
        · rw [hd4] at hw4
          repeat' first | ((with_reducible refine r_lssF ?_ ?_); (· omega)) | with_reducible apply condW_F | ((with_reducible apply r_add); (· omega); (· omega)) | ((with_reducible refine nx3_of (s.pend.length - (j + 1)) ?_ ?_); (· omega); exact ⟨j + 1, by simp, rfl, by omega, hs, by rw [hw2, hw3, hw4]; simp⟩)
    · rw [hd2] at hw2
      repeat' first | ((with_reducible refine r_lssF ?_ ?_); (· omega)) | with_reducible apply condW_F | ((first | (with_reducible refine fin_ret0 hs ?_) | (with_reducible refine fin_ret0 (hs0.trans hs) ?_)); intro wa hk; (rw [hin0, State.inside, hw, hw2]; rfl))
def applyOk (prev st : Stamp) (t : Txn) (l : List KV) : Bool := prev.may && decide (prev.cmp st < 0) && decide (l ≠ []) && decide (Pend.err ⟨t, st, [], l⟩ = 0)
theorem d_recs_Apply {w : World} {X : XS} {prev st : Stamp} {t : Txn} {l : List KV} {a : Value} (h : Sl w X 4 a (l.map KV.l)) (hb : l.length ≤ 2 ^ 40) :
    Ct Tryz.prog 168 #[prev.v, st.v, t.v, a] w X nX fun v _ _ => v = B (applyOk prev st t l) := by
  intro w0 hk
  replace h := h.mv hk.mvo
  obtain ⟨b1, n1, c1, rfl⟩ := h.form
  apply ok_recs_Apply; unfold vc_recs_Apply
  have hs := Since.init w0
  repeat' first | with_reducible (first | apply condW_T | apply condW_F | apply un_selF | apply un_selTF | apply grdV_onF | apply grdW_offF | apply rdW_pickT | apply rdW_pickF | apply gE_F | apply gE_TF | apply r_notT | apply r_notF) | (with_reducible apply r_eql <;> intro _) | (with_reducible apply r_geq <;> intro _) | ((with_reducible apply m_lnS); (· (first | assumption | exact Own.sl (by assumption))); (· kernel_rfl)) | ((with_reducible apply r_bld); (· kernel_rfl)) | with_reducible apply jn_of | ((with_reducible refine r_pure (c_hlc_Compare _ _) ?_ hs.has ?_); (· kernel_rfl); intro w X hs1; replace hs := hs.trans hs1) | ((with_reducible refine r_pureB (c_hlc_May _) ?_ hs.has ?_ ?_); (· kernel_rfl); all_goals (intro _ w X hs1; replace hs := hs.trans hs1)) | ((first | (with_reducible refine fin_ret0 hs ?_) | (with_reducible refine fin_ret0 (hs0.trans hs) ?_)); intro wa hk; (simp_all [applyOk] <;> omega)) | (refine r_ct0V (d_mvcc_PendingMay  (p := ⟨t,st,[],l⟩) (Sl.nil _ _ _) (by first | assumption | exact Sl.mv (by assumption) (by (first | exact mv0 | exact mv1 (by assumption) | exact mv2 (by assumption) (by assumption))) | exact Pends.mv (by assumption) (by (first | exact mv0 | exact mv1 (by assumption) | exact mv2 (by assumption) (by assumption))) | exact Hists.mv (by assumption) (by (first | exact mv0 | exact mv1 (by assumption) | exact mv2 (by assumption) (by assumption))) | exact Rec.at.mv (by assumption) (by (first | exact mv0 | exact mv1 (by assumption) | exact mv2 (by assumption) (by assumption))) | exact Own.sl (by assumption) | exact Cells.mv (by assumption) (by (first | exact mv0 | exact mv1 (by assumption) | exact mv2 (by assumption) (by assumption))) | exact Cells.mv (RowIs.cells (by assumption)) (by (first | exact mv0 | exact mv1 (by assumption) | exact mv2 (by assumption) (by assumption))) | omega) hb) (by kernel_rfl) hs.has ?_; intro w X hs1; replace hs := hs.trans hs1)
def pointOk (x : Nat) : Bool := decide ((toPoint x).2 = 0) && fgt (toPoint x).1 0 && flt (toPoint x).1 one64
def rangeNo (n : Int) : Bool := decide (n ≥ 1) && decide (n ≤ 12)
def Rec.fieldsOk (r : Rec) : Bool :=
  if r.kind = 1 then r.state.may
  else if r.kind = 2 then decide (r.n ≥ 0) && decide (r.n ≤ 281474976710656)
  else if r.kind = 3 then decide (Pend.err ⟨r.txn, r.stamp, r.reads, r.writes⟩ = 0) && partsOk r.parts
  else if r.kind = 4 then r.txn.may && r.stamp.decided r.commit
  else if r.kind = 5 then r.stamp.may
  else if r.kind = 6 then pointOk r.point && rangeNo r.n && r.stamp.may
  else if r.kind = 7 then rangeNo r.n
  else if r.kind = 8 then decide (r.n ≥ 1)
  else if r.kind = 9 then r.txn.may && r.stamp.moment && partsOk r.parts
  else if r.kind = 10 then r.txn.may
  else if r.kind = 11 then applyOk r.prev r.stamp r.txn r.writes
  else r.stamp.may && pairsOk r.pairs
theorem d_recs_fields {w : World} {X : XS} {r : Rec} {vr vw vp vq vh vd : Value} (h : r.at w X vr vw vp vq vh vd) (hsm : r.small) :
    Ct Tryz.prog 224 #[r.v vr vw vp vq vh vd] w X nX fun v _ _ => v = B r.fieldsOk := by
  intro w0 hk
  obtain ⟨h1, h2, h3, h4, h5, h6⟩ := h.mv hk.mvo
  obtain ⟨b1, n1, c1, rfl⟩ := h1.form
  obtain ⟨b2, n2, c2, rfl⟩ := h2.form
  apply ok_recs_fields; unfold vc_recs_fields
  have hs := Since.init w0
  repeat' first | with_reducible (first | apply condW_T | apply condW_F | apply un_selT | apply un_selFT | apply grdV_onT | apply grdW_offT | apply rdW_pickT | apply rdW_pickF | apply gE_T | apply gE_FT) | (with_reducible apply r_eql <;> intro _) | (with_reducible apply r_leq <;> intro _) | (with_reducible apply r_geq <;> intro _) | (with_reducible apply r_flss <;> intro _) | (with_reducible apply r_fgtr <;> intro _) | ((with_reducible apply r_bld); (· kernel_rfl)) | ((with_reducible apply m_ext); (· rfl)) | with_reducible apply jn_of | ((with_reducible refine r_pureB (c_hlc_May _) ?_ hs.has ?_ ?_); (· kernel_rfl); all_goals (intro _ w X hs1; replace hs := hs.trans hs1)) | ((with_reducible refine r_pureB (c_mvcc_TxnMay _) ?_ hs.has ?_ ?_); (· kernel_rfl); all_goals (intro _ w X hs1; replace hs := hs.trans hs1)) | ((with_reducible refine r_pureB (c_recs_decided _ _) ?_ hs.has ?_ ?_); (· kernel_rfl); all_goals (intro _ w X hs1; replace hs := hs.trans hs1)) | ((with_reducible refine r_pure (c_place_Point _) ?_ hs.has ?_); (· kernel_rfl); intro w X hs1; replace hs := hs.trans hs1) | ((with_reducible refine r_pureB (c_recs_ranges _) ?_ hs.has ?_ ?_); (· kernel_rfl); all_goals (intro _ w X hs1; replace hs := hs.trans hs1)) | ((with_reducible refine r_pureB (c_recs_moment _) ?_ hs.has ?_ ?_); (· kernel_rfl); all_goals (intro _ w X hs1; replace hs := hs.trans hs1)) | (refine r_ct0B (d_recs_StateMay  (s := r.state) (by first | assumption | exact Sl.mv (by assumption) (by (first | exact mv0 | exact mv1 (by assumption) | exact mv2 (by assumption) (by assumption))) | exact Pends.mv (by assumption) (by (first | exact mv0 | exact mv1 (by assumption) | exact mv2 (by assumption) (by assumption))) | exact Hists.mv (by assumption) (by (first | exact mv0 | exact mv1 (by assumption) | exact mv2 (by assumption) (by assumption))) | exact Rec.at.mv (by assumption) (by (first | exact mv0 | exact mv1 (by assumption) | exact mv2 (by assumption) (by assumption))) | exact Own.sl (by assumption) | exact Cells.mv (by assumption) (by (first | exact mv0 | exact mv1 (by assumption) | exact mv2 (by assumption) (by assumption))) | exact Cells.mv (RowIs.cells (by assumption)) (by (first | exact mv0 | exact mv1 (by assumption) | exact mv2 (by assumption) (by assumption))) | omega) (by first | assumption | exact Sl.mv (by assumption) (by (first | exact mv0 | exact mv1 (by assumption) | exact mv2 (by assumption) (by assumption))) | exact Pends.mv (by assumption) (by (first | exact mv0 | exact mv1 (by assumption) | exact mv2 (by assumption) (by assumption))) | exact Hists.mv (by assumption) (by (first | exact mv0 | exact mv1 (by assumption) | exact mv2 (by assumption) (by assumption))) | exact Rec.at.mv (by assumption) (by (first | exact mv0 | exact mv1 (by assumption) | exact mv2 (by assumption) (by assumption))) | exact Own.sl (by assumption) | exact Cells.mv (by assumption) (by (first | exact mv0 | exact mv1 (by assumption) | exact mv2 (by assumption) (by assumption))) | exact Cells.mv (RowIs.cells (by assumption)) (by (first | exact mv0 | exact mv1 (by assumption) | exact mv2 (by assumption) (by assumption))) | omega) hsm.state) (by kernel_rfl) hs.has ?_ ?_ <;> (intro _ w X hs1; replace hs := hs.trans hs1)) | (refine r_ct0V (d_mvcc_PendingMay  (p := ⟨r.txn,r.stamp,r.reads,r.writes⟩) (by first | assumption | exact Sl.mv (by assumption) (by (first | exact mv0 | exact mv1 (by assumption) | exact mv2 (by assumption) (by assumption))) | exact Pends.mv (by assumption) (by (first | exact mv0 | exact mv1 (by assumption) | exact mv2 (by assumption) (by assumption))) | exact Hists.mv (by assumption) (by (first | exact mv0 | exact mv1 (by assumption) | exact mv2 (by assumption) (by assumption))) | exact Rec.at.mv (by assumption) (by (first | exact mv0 | exact mv1 (by assumption) | exact mv2 (by assumption) (by assumption))) | exact Own.sl (by assumption) | exact Cells.mv (by assumption) (by (first | exact mv0 | exact mv1 (by assumption) | exact mv2 (by assumption) (by assumption))) | exact Cells.mv (RowIs.cells (by assumption)) (by (first | exact mv0 | exact mv1 (by assumption) | exact mv2 (by assumption) (by assumption))) | omega) (by first | assumption | exact Sl.mv (by assumption) (by (first | exact mv0 | exact mv1 (by assumption) | exact mv2 (by assumption) (by assumption))) | exact Pends.mv (by assumption) (by (first | exact mv0 | exact mv1 (by assumption) | exact mv2 (by assumption) (by assumption))) | exact Hists.mv (by assumption) (by (first | exact mv0 | exact mv1 (by assumption) | exact mv2 (by assumption) (by assumption))) | exact Rec.at.mv (by assumption) (by (first | exact mv0 | exact mv1 (by assumption) | exact mv2 (by assumption) (by assumption))) | exact Own.sl (by assumption) | exact Cells.mv (by assumption) (by (first | exact mv0 | exact mv1 (by assumption) | exact mv2 (by assumption) (by assumption))) | exact Cells.mv (RowIs.cells (by assumption)) (by (first | exact mv0 | exact mv1 (by assumption) | exact mv2 (by assumption) (by assumption))) | omega) hsm.writes) (by kernel_rfl) hs.has ?_; intro w X hs1; replace hs := hs.trans hs1) | (refine r_ct0B (d_recs_Parts  (by first | assumption | exact Sl.mv (by assumption) (by (first | exact mv0 | exact mv1 (by assumption) | exact mv2 (by assumption) (by assumption))) | exact Pends.mv (by assumption) (by (first | exact mv0 | exact mv1 (by assumption) | exact mv2 (by assumption) (by assumption))) | exact Hists.mv (by assumption) (by (first | exact mv0 | exact mv1 (by assumption) | exact mv2 (by assumption) (by assumption))) | exact Rec.at.mv (by assumption) (by (first | exact mv0 | exact mv1 (by assumption) | exact mv2 (by assumption) (by assumption))) | exact Own.sl (by assumption) | exact Cells.mv (by assumption) (by (first | exact mv0 | exact mv1 (by assumption) | exact mv2 (by assumption) (by assumption))) | exact Cells.mv (RowIs.cells (by assumption)) (by (first | exact mv0 | exact mv1 (by assumption) | exact mv2 (by assumption) (by assumption))) | omega)) (by kernel_rfl) hs.has ?_ ?_ <;> (intro _ w X hs1; replace hs := hs.trans hs1)) | (refine r_ct0B (d_recs_pairs  (by first | assumption | exact Sl.mv (by assumption) (by (first | exact mv0 | exact mv1 (by assumption) | exact mv2 (by assumption) (by assumption))) | exact Pends.mv (by assumption) (by (first | exact mv0 | exact mv1 (by assumption) | exact mv2 (by assumption) (by assumption))) | exact Hists.mv (by assumption) (by (first | exact mv0 | exact mv1 (by assumption) | exact mv2 (by assumption) (by assumption))) | exact Rec.at.mv (by assumption) (by (first | exact mv0 | exact mv1 (by assumption) | exact mv2 (by assumption) (by assumption))) | exact Own.sl (by assumption) | exact Cells.mv (by assumption) (by (first | exact mv0 | exact mv1 (by assumption) | exact mv2 (by assumption) (by assumption))) | exact Cells.mv (RowIs.cells (by assumption)) (by (first | exact mv0 | exact mv1 (by assumption) | exact mv2 (by assumption) (by assumption))) | omega)) (by kernel_rfl) hs.has ?_ ?_ <;> (intro _ w X hs1; replace hs := hs.trans hs1)) | (refine r_ct0B ((d_recs_Apply (l := r.writes))  (by first | assumption | exact Sl.mv (by assumption) (by (first | exact mv0 | exact mv1 (by assumption) | exact mv2 (by assumption) (by assumption))) | exact Pends.mv (by assumption) (by (first | exact mv0 | exact mv1 (by assumption) | exact mv2 (by assumption) (by assumption))) | exact Hists.mv (by assumption) (by (first | exact mv0 | exact mv1 (by assumption) | exact mv2 (by assumption) (by assumption))) | exact Rec.at.mv (by assumption) (by (first | exact mv0 | exact mv1 (by assumption) | exact mv2 (by assumption) (by assumption))) | exact Own.sl (by assumption) | exact Cells.mv (by assumption) (by (first | exact mv0 | exact mv1 (by assumption) | exact mv2 (by assumption) (by assumption))) | exact Cells.mv (RowIs.cells (by assumption)) (by (first | exact mv0 | exact mv1 (by assumption) | exact mv2 (by assumption) (by assumption))) | omega) hsm.writes) (by kernel_rfl) hs.has ?_ ?_ <;> (intro _ w X hs1; replace hs := hs.trans hs1))
  all_goals
    (with_reducible refine fin_ret0 hs ?_)
    intro wa hk9
    unfold Rec.fieldsOk
    repeat (first | rw [if_pos (by omega)] | rw [if_neg (by omega)])
    simp_all [pointOk, rangeNo, one64] <;> omega
def Rec.err (r : Rec) : Int := if !r.strip.2 then 7 else if !r.strip.1.isZero || !r.fieldsOk then 4 else 0
theorem d_recs_May {w : World} {X : XS} {r : Rec} {vr vw vp vq vh vd : Value} (h : r.at w X vr vw vp vq vh vd) (hsm : r.small) :
    Ct Tryz.prog 155 #[r.v vr vw vp vq vh vd] w X nX fun v _ _ => v = I r.err := by
  intro w0 hk
  have h := h.mv hk.mvo
  apply ok_recs_May; unfold vc_recs_May
  have hs := Since.init w0
  refine r_ct0 (d_recs_without h) (by kernel_rfl) hs.has ?_
  rintro v wa w X ⟨vr', vw', vp', vq', vh', vd', rfl, hat⟩ hle hin hs1
  replace hs := hs.trans hs1
  have q1 := hat.1.one
  have q2 := hat.2.1.one
  have q3 := hat.2.2.1.one
  have q4 := hat.2.2.2.1.one
  have q5 := hat.2.2.2.2.1.one
  have q6 := hat.2.2.2.2.2.one
  cases hb : r.strip.2 <;>
  repeat' first | with_reducible (first | apply condW_T | apply condW_F) | ((with_reducible apply m_sub); (· (simp only [Value.cells, nq1, nq2, nq3, nq4, nq5, nq6, setL, nq7, nq8, nq9, nq0, Nat.reduceAdd, Nat.zero_add]; try rfl))) | with_reducible (first | apply un_box | apply un_selF | apply un_selTF | apply grdV_onF | apply grdW_offF | apply rdW_pickT | apply rdW_pickF | apply gE_F | apply gE_TF | apply r_notT | apply r_notF) | ((with_reducible apply m_ext); (· rfl)) | ((with_reducible apply m_chkc); (case h => (repeat' first | with_reducible apply all_one_cons | with_reducible exact all_one_nil | assumption | rfl | exact Sl.one (by assumption) | exact Rws.one (by assumption) | exact Sl.one (Own.sl (by assumption))))) | ((with_reducible apply chk_T); (· first | rfl | assumption | exact Sl.one (by assumption) | exact Rws.one (by assumption) | exact Sl.one (Own.sl (by assumption)))) | with_reducible apply jn_of | ((first | (with_reducible refine fin_ret0 hs ?_) | (with_reducible refine fin_ret0 (hs0.trans hs) ?_)); intro wa hk; (simp [Rec.err, *])) | (refine r_ct0B (d_recs_zero  (r := r.strip.1) (by first | assumption | exact Sl.mv (by assumption) (by (first | exact mv0 | exact mv1 (by assumption) | exact mv2 (by assumption) (by assumption))) | exact Pends.mv (by assumption) (by (first | exact mv0 | exact mv1 (by assumption) | exact mv2 (by assumption) (by assumption))) | exact Hists.mv (by assumption) (by (first | exact mv0 | exact mv1 (by assumption) | exact mv2 (by assumption) (by assumption))) | exact Rec.at.mv (by assumption) (by (first | exact mv0 | exact mv1 (by assumption) | exact mv2 (by assumption) (by assumption))) | exact Own.sl (by assumption) | exact Cells.mv (by assumption) (by (first | exact mv0 | exact mv1 (by assumption) | exact mv2 (by assumption) (by assumption))) | exact Cells.mv (RowIs.cells (by assumption)) (by (first | exact mv0 | exact mv1 (by assumption) | exact mv2 (by assumption) (by assumption))) | omega)) (by kernel_rfl) hs.has ?_ ?_ <;> (intro _ w X hs1; replace hs := hs.trans hs1)) | (refine r_ct0B ((d_recs_fields (r := r))  (h.mv (Since.mv hs)) hsm) (by kernel_rfl) hs.has ?_ ?_ <;> (intro _ w X hs1; replace hs := hs.trans hs1))
end Go.Proofs.YtpdkoaklobnegaaGreat
namespace Go.Proofs.YtpdkoaklobnegaaGreat
open Go.Eng
set_option maxRecDepth 100000
set_option maxHeartbeats 1000000
set_option linter.unusedVariables false
set_option linter.unusedSimpArgs false
attribute [local irreducible] un jn chk fld ld1 ldA st1 ixS lnS lnT bld cvI cvF ixA bsS apS rdV rdW grdW eW eV eU eC eF gE condW fin pickN nilN binS vS lp0 lp1 lp2 lp3 lp4 lp5 lp6 lp7 nx0 nx1 nx2 nx3 nx4 nx5 nx6 nx7
abbrev U1 (b : Nat) : List Value := [.int .u8 b]
def encU (u : Nat) : List Nat := if u < 128 then [u] else (u % 128 + 128) :: encU (u / 128)
termination_by u
decreasing_by omega
def zig (n : Int) : Nat := if n < 0 then 18446744073709551615 - ((n % 18446744073709551616).toNat * 2 % 18446744073709551616) else (n % 18446744073709551616).toNat * 2 % 18446744073709551616
def encI (n : Int) : List Nat := encU (zig n)
theorem encU_len : ∀ (k u : Nat), u < 128 ^ k → (encU u).length ≤ max k 1
  | 0, u, h => by
    have : u = 0 := by simpa using h
    subst this; unfold encU; simp
  | k + 1, u, h => by
    unfold encU
    split
    · simp only [List.length_cons, List.length_nil]; omega
    · have hk : 1 ≤ k := by
        rcases k with _ | k
        · simp at h; omega
        · exact Nat.le_add_left _ _
      have h1 : u / 128 < 128 ^ k := by
        rw [Nat.div_lt_iff_lt_mul (by decide), ← Nat.pow_succ]; exact h
      have := encU_len k (u / 128) h1
      simp only [List.length_cons]
      omega
theorem zig_lt (n : Int) : zig n < 18446744073709551616 := by
  unfold zig; split <;> omega
theorem encI_len (n : Int) : (encI n).length ≤ 10 := by
  have := encU_len 10 (zig n) (Nat.lt_of_lt_of_le (zig_lt n) (by decide))
  unfold encI
  omega
def encT (s : BA) : List Nat := encI s.size ++ s.data.toList.map UInt8.toNat
def byteAt (u k : Nat) : Nat := u / 256 ^ k % 256
def encF (x : Nat) : List Nat := (List.range 8).map (byteAt (canon x))
def encV (v : Val) : List Nat :=
  let v := if v.may then v else Val.zero
  encI v.kind ++ (if v.kind = 1 then encF v.num else if v.kind = 2 then encT v.text else [])
def encSt (s : Stamp) : List Nat := encI s.wall ++ encI s.logic ++ encI s.node
def encTx (t : Txn) : List Nat := encI t.coord ++ encI t.life ++ encI t.sq
def encKV (x : KV) : List Nat := encT x.key ++ encV x.val
def encL {α : Type} (f : α → List Nat) (l : List α) : List Nat := encI l.length ++ (l.map f).flatten
end Go.Proofs.YtpdkoaklobnegaaGreat
namespace Go.Proofs.YtpdkoaklobnegaaGreat
open Go.Eng
set_option maxRecDepth 100000
set_option maxHeartbeats 1000000
set_option linter.unusedVariables false
set_option linter.unusedSimpArgs false
attribute [local irreducible] un jn chk fld ld1 ldA st1 ixS lnS lnT bld cvI cvF ixA bsS apS rdV rdW grdW eW eV eU eC eF gE condW fin pickN nilN binS vS lp0 lp1 lp2 lp3 lp4 lp5 lp6 lp7 nx0 nx1 nx2 nx3 nx4 nx5 nx6 nx7
theorem Own.tag {w : World} {X : XS} {lo e k : Nat} {v : Value} {rows : List (List Value)} (h : Own w X lo e k v rows) {g : Nat} (hg : v.ownBlock = some g) : ∃ cs : List Value, w.heap[g]? = some (.cells cs.toArray e (0, 0)) := by
  rcases h.row with ⟨rfl, _⟩ | ⟨b, cap, cs, rfl, _, hr, _⟩
  · cases hg
  · simp only [Value.ownBlock, Option.some.injEq] at hg
    subst hg; exact ⟨cs, hr.2⟩
theorem Own.neRow {w : World} {X Y : XS} {lo e e' k g : Nat} {v : Value} {rows : List (List Value)} {cs : List Value} (h : Own w X lo e k v rows) (hr : RowIs w Y g cs e') (he : decide (e ≠ e') = true) : v.ownBlock ≠ some g := fun hg => by
  obtain ⟨c, h1⟩ := Own.tag h hg
  rw [hr.2] at h1
  simp only [Option.some.injEq, Obj.cells.injEq] at h1
  exact of_decide_eq_true he h1.2.1.symm
theorem wrap64 (n : Int) : IntKind.u64.wrap n = n % 18446744073709551616 := by
  simp only [IntKind.wrap, IntKind.bits, IntKind.signed]
  simp
theorem wrap8 (n : Int) : IntKind.u8.wrap n = n % 256 := by
  simp only [IntKind.wrap, IntKind.bits, IntKind.signed]
  simp
section
variable {P : Program} {X : XS} {w : World} {N : Value → Prop} {t : TypeId}
theorem r_toU8 {src dst : TypeId} {k : IntKind} {u : Nat} (hs : (P.underlying src).isSome = true) (hd : P.underlying dst = some (.int .u8)) (h : N (.int .u8 ((u % 256 : Nat) : Int))) : rdV P X w (cvI .u8 src dst (.int k (u : Int))) N :=
  r_cvI hs hd (by rw [wrap8]; exact h)
theorem wrap8n (u : Nat) : IntKind.u8.wrap (u : Int) = ((u % 256 : Nat) : Int) := by rw [wrap8]; omega
theorem r_shl1 {u : Nat} (h : N (.int .u64 ((u * 2 % 18446744073709551616 : Nat) : Int))) : rdV P X w (binOp .shl t (.int .u64 (u : Int)) (.int .u64 1)) N :=
  rdV_shl (by omega) (by
    rw [wrap64]
    have e : ((u : Int) * 2 ^ min (1 : Int).toNat IntKind.u64.bits) % 18446744073709551616 = ((u * 2 % 18446744073709551616 : Nat) : Int) := by
      show ((u : Int) * 2 ^ 1) % 18446744073709551616 = _
      omega
    rw [e]; exact h)
theorem r_shr7 {u : Nat} (h : N (.int .u64 ((u / 128 : Nat) : Int))) : rdV P X w (binOp .shr t (.int .u64 (u : Int)) (.int .u64 7)) N :=
  rdV_shr (by omega) (by
    have e : ((u : Int)).fdiv (2 ^ min (7 : Int).toNat IntKind.u64.bits) = ((u / 128 : Nat) : Int) := by
      show ((u : Int)).fdiv 128 = _
      rw [Int.fdiv_eq_ediv_of_nonneg _ (by decide)]; omega
    rw [e]; exact h)
theorem r_shr8 {u : Nat} (h : N (.int .u64 ((u / 256 : Nat) : Int))) : rdV P X w (binOp .shr t (.int .u64 (u : Int)) (.int .u64 8)) N :=
  rdV_shr (by omega) (by
    have e : ((u : Int)).fdiv (2 ^ min (8 : Int).toNat IntKind.u64.bits) = ((u / 256 : Nat) : Int) := by
      show ((u : Int)).fdiv 256 = _
      rw [Int.fdiv_eq_ediv_of_nonneg _ (by decide)]; omega
    rw [e]; exact h)
theorem r_xorU {u : Nat} (hu : u < 18446744073709551616) (h : N (.int .u64 ((18446744073709551615 - u : Nat) : Int))) : rdV P X w (Op.unary .xor (.int .u64 (u : Int))) N := by
  refine rdV_pure (v := .int .u64 ((18446744073709551615 - u : Nat) : Int)) (fun wa => ?_) h
  have key : (BitVec.ofInt 64 18446744073709551615 ^^^ BitVec.ofInt 64 (u : Int)).toNat = 18446744073709551615 - u := by
    have h1 : BitVec.ofInt 64 18446744073709551615 = BitVec.allOnes 64 := by decide
    have h2 : (BitVec.ofInt 64 (u : Int)) = BitVec.ofNat 64 u := by simp
    rw [h1, h2, BitVec.allOnes_xor, BitVec.toNat_not, BitVec.toNat_ofNat, Nat.mod_eq_of_lt (by omega)]
  have e : IntKind.u64.wrap (BitVec.ofInt IntKind.u64.bits IntKind.u64.max ^^^ BitVec.ofInt IntKind.u64.bits (u : Int)).toNat = ((18446744073709551615 - u : Nat) : Int) := by
    rw [wrap64]
    show ((BitVec.ofInt 64 18446744073709551615 ^^^ BitVec.ofInt 64 (u : Int)).toNat : Int) % 18446744073709551616 = _
    rw [key]; omega
  have hk : (Op.unary .xor (.int .u64 (u : Int))).run P wa = .ok (.int .u64 (IntKind.u64.wrap (BitVec.ofInt IntKind.u64.bits IntKind.u64.max ^^^ BitVec.ofInt IntKind.u64.bits (u : Int)).toNat)) wa := by
    simp [Op.unary, Op.intBits, IntKind.signed]
  rw [hk, e]
theorem rdV_or {k : IntKind} {a b : Int} (h : N (.int k (k.wrap (BitVec.ofInt k.bits a ||| BitVec.ofInt k.bits b).toNat))) : rdV P X w (binOp .or t (.int k a) (.int k b)) N :=
  rdV_pure (fun wa => by simp [binOp, Op.intBits]) h
theorem or128 : ∀ b : Nat, b < 256 → (BitVec.ofInt 8 (b : Int) ||| BitVec.ofInt 8 128).toNat = b % 128 + 128 := by decide +kernel
theorem r_or128 {b : Nat} (hb : b < 256) (h : N (.int .u8 ((b % 128 + 128 : Nat) : Int))) : rdV P X w (binOp .or t (.int .u8 (b : Int)) (.int .u8 128)) N :=
  rdV_or (by
    have e : IntKind.u8.wrap (BitVec.ofInt IntKind.u8.bits (b : Int) ||| BitVec.ofInt IntKind.u8.bits 128).toNat = ((b % 128 + 128 : Nat) : Int) := by
      rw [wrap8]
      have := or128 b hb
      show ((BitVec.ofInt 8 (b : Int) ||| BitVec.ofInt 8 128).toNat : Int) % 256 = _
      rw [this]; omega
    rw [e]; exact h)
theorem r_shlW {n : Int} (h : N (.int .u64 (((n % 18446744073709551616).toNat * 2 % 18446744073709551616 : Nat) : Int))) : rdV P X w (binOp .shl t (.int .u64 (IntKind.u64.wrap n)) (.int .u64 1)) N := by
  have e : IntKind.u64.wrap n = ((n % 18446744073709551616).toNat : Int) := by rw [wrap64]; omega
  rw [e]; exact r_shl1 h
theorem r_orW {u : Nat} (h : N (.int .u8 ((u % 128 + 128 : Nat) : Int))) : rdV P X w (binOp .or t (.int .u8 (IntKind.u8.wrap (u : Int))) (.int .u8 128)) N := by
  rw [wrap8n]
  exact r_or128 (by omega) (by rw [show u % 256 % 128 = u % 128 by omega]; exact h)
end
structure Wr (w : World) (X : XS) (lo wb : Nat) (vb : Value) (bs : List Nat) : Prop where
  box : RowIs w X wb [vb] 308
  ow : Own w X lo 5 1 vb (bs.map U1)
def fpW (wb : Nat) (vb : Value) : XS := fun k => k = wb ∨ vb.ownBlock = some k
theorem Wr.mv {w w' : World} {X Y : XS} {lo wb : Nat} {vb : Value} {bs : List Nat} (h : Wr w X lo wb vb bs) (m : Mv X w Y w') : Wr w' Y lo wb vb bs := ⟨h.box.mv m, h.ow.mv m⟩
theorem Wr.ne {w : World} {X : XS} {lo wb : Nat} {vb : Value} {bs : List Nat} (h : Wr w X lo wb vb bs) : vb.ownBlock ≠ some wb := Own.neRow h.ow h.box (by kernel_rfl)
def Puts (f : FuncId) (args : Array Value) (w : World) (X : XS) (lo wb : Nat) (vb : Value) (bs ds : List Nat) : Prop :=
  Ct Tryz.prog f args w X (fpW wb vb) fun v wa w' => v = .tuple #[] ∧ ∃ vb', Wr w' (fun k => fpW wb vb k ∨ made wa w' k) lo wb vb' (bs ++ ds)
structure WS (w0 : World) (vb0 : Value) (w : World) (X : XS) (lo wb : Nat) (vb : Value) (bs : List Nat) : Prop where
  s : Since (out (fpW wb vb0) w0) w0 X w
  r : Wr w X lo wb vb bs
  v : ∀ g, vb.ownBlock = some g → vb0.ownBlock = some g ∨ w0.heap.size ≤ g
section
variable {w0 w : World} {X : XS} {lo wb : Nat} {vb0 vb : Value} {bs ds : List Nat} {R : Ending → World → Prop} {N : Value → World → XS → Prop}
theorem WS.init (h : Wr w0 (old w0) lo wb vb0 bs) : WS w0 vb0 w0 (old w0) lo wb vb0 bs := ⟨Since.out _ _, h, fun g hg => .inl hg⟩
theorem WS.since {X' : XS} {w' : World} (h : WS w0 vb0 w X lo wb vb bs) (hs : Since X w X' w') : WS w0 vb0 w' X' lo wb vb bs := ⟨h.s.trans hs, h.r.mv hs.mv, h.v⟩
theorem WS.fin (h : WS w0 vb0 w X lo wb vb (bs ++ ds)) : fin (Ret (fpW wb vb0) w0 fun v w' => (fun v wa w' => v = .tuple #[] ∧ ∃ vb', Wr w' (fun k => fpW wb vb0 k ∨ made wa w' k) lo wb vb' (bs ++ ds)) v w0 w') X w (.tuple #[]) := by
  refine fin_ret h.s fun wa hk => ⟨rfl, vb, ⟨.inl (.inl rfl), (h.r.box.kp hk).2⟩, (h.r.ow.kp hk).1, (h.r.ow.kp hk).2.1, fun g hg => ?_⟩
  rcases h.v g hg with h1 | h1
  · exact .inl (.inr h1)
  · exact .inr ⟨h1, ((h.r.ow.kp hk).ge hg).2⟩
theorem WS.out (h : WS w0 vb0 w X lo wb vb bs) {k : Nat} (hk : fpW wb vb k) (h0 : out (fpW wb vb0) w0 k) : False := by
  rcases hk with hk | hk
  · exact h0.2 (.inl hk)
  · rcases h.v k hk with h1 | h1
    · exact h0.2 (.inr h1)
    · have := h0.1; omega
theorem WS.puts {f : FuncId} {args : Array Value} (hS : WS w0 vb0 w X lo wb vb bs) (hp : Puts f args w X lo wb vb bs ds) (hf : enters Tryz.prog f = true)
    (k : ∀ vb' w' X', WS w0 vb0 w' X' lo wb vb' (bs ++ ds) → Chg (fpW wb vb) X w X' w' → N (.tuple #[]) w' X') : eC Tryz.prog R X w true f args N := by
  refine r_ct hp hf hS.s.has (fun q hq => ?_) fun v wa w' X' hq hle hin hkp hc => ?_
  · rcases hq with rfl | hq
    · exact hS.r.box.1
    · exact hS.r.ow.2.2 q hq
  · obtain ⟨rfl, vb', hW⟩ := hq
    refine k vb' w' X' ⟨hS.s.chg hc fun q h0 hq => hS.out hq h0, ⟨⟨hc.sub _ hS.r.box.1, hW.box.2⟩, hW.ow.1, hW.ow.2.1, fun g hg => ?_⟩, fun g hg => ?_⟩ hc
    · rcases hW.ow.2.2 g hg with h1 | h1
      · rcases h1 with rfl | h1
        · exact hc.sub _ hS.r.box.1
        · exact hc.sub g (hS.r.ow.2.2 g h1)
      · exact hin g h1
    · rcases hW.ow.2.2 g hg with h1 | h1
      · rcases h1 with rfl | h1
        · exact absurd hg hW.ne
        · exact hS.v g h1
      · right; have := h1.1; have := hS.s.kp.size; omega
theorem m_wput {b : Nat} (hS : WS w0 vb0 w X lo wb vb bs) (hlo : lo ≤ w.heap.size) (hb : bs.length ≤ 2 ^ 40)
    (k : ∀ vb' w' X', WS w0 vb0 w' X' lo wb vb' (bs ++ [b]) → N undef w' X') :
    eV Tryz.prog R X w true (bsS 95 5 1 1 #[(0, .int .u8 (b : Int))]) fun s w1 X1 => eV Tryz.prog R X1 w1 true (apS 95 5 1 1 95 vb s) fun x w2 X2 =>
      rdW Tryz.prog X2 w2 (nilN (ptr wb 0)) fun p => rdV Tryz.prog X2 w2 (fld 308 0 0 1 p) fun q => eU Tryz.prog R X2 w2 true (st1 95 1 q x) N := by
  refine m_app1x hS.r.ow hS.s.has hlo (by kernel_rfl) (row := U1 b) rfl rfl rfl (by simp; omega) (by simp; omega) fun v' w' X' hc ho hat => ?_
  have hne : ∀ q, blk vb q → q ≠ wb := fun q hq e => hS.r.ne (by rw [← e]; exact hq)
  have hbx : RowIs w' X' wb [vb] 308 := ⟨hc.sub _ hS.r.box.1, by rw [hc.block _ hS.r.box.1 fun hq => hne _ hq rfl]; exact hS.r.box.2⟩
  have hs' := hS.s.chg hc fun q h0 hq => hS.out (.inr hq) h0
  have hv' : ∀ g, v'.ownBlock = some g → vb0.ownBlock = some g ∨ w0.heap.size ≤ g := fun g hg => by
    rcases hat with e | ⟨g', e, hge⟩
    · exact hS.v g (e ▸ hg)
    · rw [e] at hg; cases hg; right; have := hS.s.kp.size; omega
  with_reducible apply r_nil
  have hfi : fieldInfo Tryz.prog 308 0 = some (0, 1) := by kernel_rfl
  refine m_fld1 (hbx.cells) hfi rfl fun o' ho' _ => ?_
  subst ho'
  refine m_st1 hbx (by kernel_rfl) (by simp) (by obtain ⟨_, _, _, rfl⟩ := ho.sl.form; rfl) (by obtain ⟨_, _, _, rfl⟩ := ho.sl.form; rfl) hs'.has fun w3 X3 hc3 hr3 => ?_
  have hne3 : v'.ownBlock ≠ some wb := Own.neRow ho hbx (by kernel_rfl)
  refine k v' w3 X3 ⟨hs'.chg hc3 fun q h0 hq => h0.2 (.inl hq), ⟨?_, ?_⟩, hv'⟩
  · have e : setL [vb] (0 + 0) v'.cells.toList = [v'] := by obtain ⟨_, _, _, rfl⟩ := ho.sl.form; rfl
    rw [e] at hr3; exact hr3
  · rw [List.map_append]
    exact Own.chg ho hc3 fun g hg e => hne3 (by rw [hg, e])
end
theorem d_wire_NewWriter {w : World} {X : XS} : Ct Tryz.prog 156 #[] w X nX fun v wa w' => ∃ wb, v = ptr wb 0 ∧ Wr w' (made wa w') wa.heap.size wb (.slice none 0 0) [] := by
  intro w0 hk
  apply ok_wire_NewWriter; unfold vc_wire_NewWriter
  have hs := Since.init w0
  repeat' first | ((with_reducible apply r_bld); (· kernel_rfl)) | ((with_reducible apply m_boxA); (case hX => exact hs.has); intro bx w X hbx hs1 hrow; have hs0 := hs.trans hs1; replace hs := Since.refl' hs1.has)
  refine fin_ret0 (hs0.trans hs) fun wa hk9 => ⟨bx, rfl, ⟨⟨hbx, (hrow.kp hk9).lt⟩, (hrow.kp hk9).2⟩, Own.nil _ _ _ _ _⟩
theorem d_wire_Int {w : World} {X : XS} {lo wb : Nat} {vb : Value} {bs : List Nat} {n : Int} (h : Wr w X lo wb vb bs) (hb : bs.length ≤ 2 ^ 39) (hlo : lo ≤ w.heap.size) : Puts 206 #[ptr wb 0, I n] w X lo wb vb bs (encI n) := by
  intro w0 hk
  have hlo0 : lo ≤ w0.heap.size := Nat.le_trans hlo hk.size
  have hS := WS.init (h.mv hk.mvo)
  apply ok_wire_Writer_Int; unfold vc_wire_Writer_Int
  have hs := hS.s
  have hbox := hS.r.box
  repeat' first | ((with_reducible apply r_cvI); (· kernel_rfl); (· kernel_rfl)) | (with_reducible apply r_shlW)
  refine jn_by (fun k => k (.int .u64 (zig n : Int))) ?_ ?_
  · refine lp1_of (fun n' a w X => ∃ (u : Nat) (vbi : Value) (bsi : List Nat), a = .int .u64 (u : Int) ∧ n' = u ∧ WS w0 vb w X lo wb vbi bsi ∧ bsi ++ encU u = bs ++ encI n) (zig n) ⟨zig n, vb, bs, rfl, rfl, hS, rfl⟩ ?_
    clear hs hbox hS
    rintro u a w X ⟨_, vbi, bsi, rfl, rfl, hS, hbs⟩
    have hs := hS.s
    have hbox := hS.r.box
    have hlen : bsi.length ≤ 2 ^ 40 := by
      have h1 := congrArg List.length hbs
      have h2 := encI_len n
      simp only [List.length_append] at h1
      omega
    have hlo1 : lo ≤ w.heap.size := Nat.le_trans hlo0 hs.kp.size
    by_cases hu : u < 128
    · have he : encU u = [u] := by rw [encU, if_pos hu]
      repeat' first | ((with_reducible refine r_geqF ?_ ?_); (· omega)) | with_reducible (first | apply condW_F | apply r_nil) | ((with_reducible apply m_fld1); (· (first | assumption | exact RowIs.cells (by assumption))); (· kernel_rfl); (· rfl); intro _ _ _) | ((with_reducible apply m_ld1); (· (first | assumption | exact RowIs.cells (by assumption))); (· (first | exact mv0 | exact mv1 (by assumption) | exact mv2 (by assumption) (by assumption))); (· kernel_rfl); (· rfl)) | ((with_reducible apply r_cvI); (· kernel_rfl); (· kernel_rfl))
      rw [wrap8n, show u % 256 = u by omega]
      refine m_wput hS hlo1 hlen fun vb2 w2 X2 hS2 => ?_
      rw [← he, hbs] at hS2
      exact hS2.fin
    · have he : encU u = (u % 128 + 128) :: encU (u / 128) := by rw [encU, if_neg hu]
      repeat' first | ((with_reducible refine r_geqT ?_ ?_); (· omega)) | with_reducible (first | apply condW_T | apply r_nil) | ((with_reducible apply m_fld1); (· (first | assumption | exact RowIs.cells (by assumption))); (· kernel_rfl); (· rfl); intro _ _ _) | ((with_reducible apply m_ld1); (· (first | assumption | exact RowIs.cells (by assumption))); (· (first | exact mv0 | exact mv1 (by assumption) | exact mv2 (by assumption) (by assumption))); (· kernel_rfl); (· rfl)) | ((with_reducible apply r_cvI); (· kernel_rfl); (· kernel_rfl)) | (with_reducible apply r_orW)
      refine m_wput hS hlo1 hlen fun vb2 w2 X2 hS2 => ?_
      repeat' first | (with_reducible apply r_shr7)
      refine nx1_of (u / 128) (by omega) ⟨u / 128, vb2, _, rfl, rfl, hS2, ?_⟩
      rw [List.append_assoc, List.singleton_append, ← he]; exact hbs
  · intro K hK
    repeat' first | with_reducible (first | apply condW_T | apply condW_F) | (with_reducible apply r_lss <;> intro _) | ((with_reducible apply r_xorU); (· omega))
    · have : zig n = 18446744073709551615 - ((n % 18446744073709551616).toNat * 2 % 18446744073709551616) := by unfold zig; rw [if_pos (by omega)]
      rw [← this]; exact hK
    · have : zig n = (n % 18446744073709551616).toNat * 2 % 18446744073709551616 := by unfold zig; rw [if_neg (by omega)]
      rw [← this]; exact hK
end Go.Proofs.YtpdkoaklobnegaaGreat
namespace Go.Proofs.YtpdkoaklobnegaaGreat
open Go.Eng
set_option maxRecDepth 100000
set_option maxHeartbeats 1000000
set_option linter.unusedVariables false
set_option linter.unusedSimpArgs false
attribute [local irreducible] un jn chk fld ld1 ldA st1 ixS lnS lnT bld cvI cvF ixA bsS apS rdV rdW grdW eW eV eU eC eF gE condW fin pickN nilN binS vS lp0 lp1 lp2 lp3 lp4 lp5 lp6 lp7 nx0 nx1 nx2 nx3 nx4 nx5 nx6 nx7
theorem txt_rows (s : BA) : (txt s).map (fun x => [x]) = (s.data.toList.map UInt8.toNat).map U1 := by
  unfold txt; simp
section
variable {w0 w : World} {X : XS} {lo wb : Nat} {vb0 vb : Value} {bs ds : List Nat} {R : Ending → World → Prop} {N : Value → World → XS → Prop}
theorem m_wset {v' : Value} {w' : World} {X' : XS} (hS : WS w0 vb0 w X lo wb vb bs) (hc : Chg (blk vb) X w X' w') (ho : Own w' X' lo 5 1 v' (ds.map U1)) (hat : v'.ownBlock = vb.ownBlock ∨ ∃ g, v'.ownBlock = some g ∧ w.heap.size ≤ g)
    (k : ∀ w' X', WS w0 vb0 w' X' lo wb v' ds → N undef w' X') :
    rdW Tryz.prog X' w' (nilN (ptr wb 0)) fun p => rdV Tryz.prog X' w' (fld 308 0 0 1 p) fun q => eU Tryz.prog R X' w' true (st1 95 1 q v') N := by
  have hne : ∀ q, blk vb q → q ≠ wb := fun q hq e => hS.r.ne (by rw [← e]; exact hq)
  have hbx : RowIs w' X' wb [vb] 308 := ⟨hc.sub _ hS.r.box.1, by rw [hc.block _ hS.r.box.1 fun hq => hne _ hq rfl]; exact hS.r.box.2⟩
  have hs' := hS.s.chg hc fun q h0 hq => hS.out (.inr hq) h0
  have hv' : ∀ g, v'.ownBlock = some g → vb0.ownBlock = some g ∨ w0.heap.size ≤ g := fun g hg => by
    rcases hat with e | ⟨g', e, hge⟩
    · exact hS.v g (e ▸ hg)
    · rw [e] at hg; cases hg; right; have := hS.s.kp.size; omega
  with_reducible apply r_nil
  have hfi : fieldInfo Tryz.prog 308 0 = some (0, 1) := by kernel_rfl
  refine m_fld1 (hbx.cells) hfi rfl fun o' ho' _ => ?_
  subst ho'
  refine m_st1 hbx (by kernel_rfl) (by simp) (by obtain ⟨_, _, _, rfl⟩ := ho.sl.form; rfl) (by obtain ⟨_, _, _, rfl⟩ := ho.sl.form; rfl) hs'.has fun w3 X3 hc3 hr3 => ?_
  have hne3 : v'.ownBlock ≠ some wb := Own.neRow ho hbx (by kernel_rfl)
  refine k w3 X3 ⟨hs'.chg hc3 fun q h0 hq => h0.2 (.inl hq), ⟨?_, ?_⟩, hv'⟩
  · have e : setL [vb] (0 + 0) v'.cells.toList = [v'] := by obtain ⟨_, _, _, rfl⟩ := ho.sl.form; rfl
    rw [e] at hr3; exact hr3
  · exact Own.chg ho hc3 fun g hg e => hne3 (by rw [hg, e])
end
theorem d_wire_Text {w : World} {X : XS} {lo wb : Nat} {vb : Value} {bs : List Nat} {s : BA} (h : Wr w X lo wb vb bs) (hb : bs.length ≤ 2 ^ 38) (hlo : lo ≤ w.heap.size) (hs0 : s.size ≤ 2 ^ 38) : Puts 291 #[ptr wb 0, .string s] w X lo wb vb bs (encT s) := by
  intro w0 hk
  have hlo0 : lo ≤ w0.heap.size := Nat.le_trans hlo hk.size
  have hS := WS.init (h.mv hk.mvo)
  apply ok_wire_Writer_Text; unfold vc_wire_Writer_Text
  have hs := hS.s
  repeat' first | ((with_reducible apply r_lnT); (· kernel_rfl))
  refine hS.puts (d_wire_Int hS.r (by omega) hlo0) (by kernel_rfl) fun vb2 w2 X2 hS2 hc2 => ?_
  clear hs
  have hs := hS2.s
  have hbox := hS2.r.box
  have hen := encI_len s.size
  repeat' first | with_reducible apply r_nil | ((with_reducible apply m_fld1); (· (first | assumption | exact RowIs.cells (by assumption))); (· kernel_rfl); (· rfl); intro _ _ _) | ((with_reducible apply m_ld1); (· (first | assumption | exact RowIs.cells (by assumption))); (· (first | exact mv0 | exact mv1 (by assumption) | exact mv2 (by assumption) (by assumption))); (· kernel_rfl); (· rfl))
  refine m_appT (bytes := 1) hS2.r.ow hs.has (Nat.le_trans hlo0 hs.kp.size) (by kernel_rfl) (by kernel_rfl) (by simp; omega) (by simp; omega) fun v' w3 X3 hc ho hat => ?_
  rw [txt_rows, ← List.map_append] at ho
  refine m_wset hS2 hc ho hat fun w4 X4 hS4 => ?_
  rw [List.append_assoc] at hS4
  exact hS4.fin
theorem d_wire_Float {w : World} {X : XS} {lo wb : Nat} {vb : Value} {bs : List Nat} {x : Nat} (h : Wr w X lo wb vb bs) (hb : bs.length ≤ 2 ^ 39) (hlo : lo ≤ w.heap.size) : Puts 219 #[ptr wb 0, .float .f64 x] w X lo wb vb bs (encF x) := by
  intro w0 hk
  have hlo0 : lo ≤ w0.heap.size := Nat.le_trans hlo hk.size
  have hS := WS.init (h.mv hk.mvo)
  apply ok_wire_Writer_Float; unfold vc_wire_Writer_Float
  have hs := hS.s
  repeat' first | ((with_reducible refine r_pure (c_num_Bits _) ?_ hs.has ?_); (· kernel_rfl); intro w X hs1; replace hs := hs.trans hs1)
  refine lp2_of (fun n' a b w X => ∃ (i : Nat) (vbi : Value), a = I i ∧ b = .int .u64 ((canon x / 256 ^ i : Nat) : Int) ∧ n' = 8 - i ∧ i ≤ 8 ∧ WS w0 vb w X lo wb vbi (bs ++ (List.range i).map (byteAt (canon x)))) 8
    ⟨0, vb, rfl, by simp, rfl, by omega, by simpa using hS.since (by assumption)⟩ ?_
  clear hs hS hs1
  rintro n' a b w X ⟨i, vbi, rfl, rfl, rfl, hi, hS⟩
  have hs := hS.s
  have hbox := hS.r.box
  have hlo1 : lo ≤ w.heap.size := Nat.le_trans hlo0 hs.kp.size
  by_cases h8 : i < 8
  · repeat' first | ((with_reducible refine r_lssT ?_ ?_); (· omega)) | with_reducible (first | apply condW_T | apply r_nil) | ((with_reducible apply m_fld1); (· (first | assumption | exact RowIs.cells (by assumption))); (· kernel_rfl); (· rfl); intro _ _ _) | ((with_reducible apply m_ld1); (· (first | assumption | exact RowIs.cells (by assumption))); (· (first | exact mv0 | exact mv1 (by assumption) | exact mv2 (by assumption) (by assumption))); (· kernel_rfl); (· rfl)) | ((with_reducible apply r_cvI); (· kernel_rfl); (· kernel_rfl))
    rw [wrap8n]
    refine m_wput hS hlo1 (by simp; omega) fun vb2 w2 X2 hS2 => ?_
    repeat' first | ((with_reducible apply r_add); (· omega); (· omega)) | (with_reducible apply r_shr8)
    refine nx2_of (8 - (i + 1)) (by omega) ⟨i + 1, vb2, by simp, ?_, rfl, by omega, ?_⟩
    · rw [Nat.div_div_eq_div_mul, Nat.pow_succ]
    · rw [List.range_succ, List.map_append, ← List.append_assoc]; exact hS2
  · obtain rfl : i = 8 := by omega
    repeat' first | ((with_reducible refine r_lssF ?_ ?_); (· omega)) | with_reducible apply condW_F
    exact hS.fin
theorem d_wire_Bytes {w : World} {X : XS} {lo wb : Nat} {vb : Value} {bs : List Nat} (h : Wr w X lo wb vb bs) (hb : bs.length ≤ 2 ^ 40) : Ct Tryz.prog 157 #[ptr wb 0] w X nX fun v wa w' => Own w' (made wa w') wa.heap.size 5 1 v (bs.map U1) := by
  intro w0 hk
  replace h := h.mv hk.mvo
  have hbox := h.box
  apply ok_wire_Writer_Bytes; unfold vc_wire_Writer_Bytes
  have hs := Since.init w0
  repeat' first | with_reducible apply r_nil | ((with_reducible apply m_fld1); (· (first | assumption | exact RowIs.cells (by assumption))); (· kernel_rfl); (· rfl); intro _ _ _) | ((with_reducible apply m_ld1); (· (first | assumption | exact RowIs.cells (by assumption))); (· (first | exact mv0 | exact mv1 (by assumption) | exact mv2 (by assumption) (by assumption))); (· kernel_rfl); (· rfl)) | ((with_reducible apply m_bs0); (case hX => exact hs.has); (case hu => kernel_rfl); (case hz => kernel_rfl); intro acc w X hs1 ho; replace hs := hs.trans hs1) | ((first | (with_reducible refine fin_ret0 hs ?_) | (with_reducible refine fin_ret0 (hs0.trans hs) ?_)); intro wa hk; (exact (ho.kp hk).tight)) | ((with_reducible apply m_appS); (case own => assumption); (case hs => assumption); (case h0 => exact fun _ h => h); (case he => kernel_rfl); (case src => exact Sl.mv h.ow.sl (Since.mv hs)); (case h1 => simp [one]); (case hb => simp; omega); (case hl => simp; omega); intro acc w X hs1 ho hc hat; replace hs := hs1; rw [List.nil_append] at ho)
end Go.Proofs.YtpdkoaklobnegaaGreat
