/- One of the texts of a proof by an abstract machine over the model. -/
import Derived.Test.YtmhkendlllmodaaGreatDoorGcA
import Derived.Test.YtmhkendlllmodaaGreatDoorFmP
import Derived.KernelRfl
set_option linter.unusedSimpArgs false
set_option linter.unusedVariables false
namespace Go.Gc
open Go Go.FM Go.Proofs
set_option maxRecDepth 100000
set_option maxHeartbeats 4000000

theorem t_mix : Tryz.prog.follows .mixedOrders = true := by kernel_rfl
theorem f_Program_eqGuardType_Program_depth_3 : Program.eqGuardType Tryz.prog (Program.depth Tryz.prog) 3 = Bool.false := by kernel_rfl
theorem f_Program_eqGuardType_Program_depth_46 : Program.eqGuardType Tryz.prog (Program.depth Tryz.prog) 46 = Bool.false := by kernel_rfl
theorem f_arT_29 : arT Tryz.prog 29 = Option.none := by kernel_rfl
theorem f_arT_35 : arT Tryz.prog 35 = Option.none := by kernel_rfl
theorem f_arT_37 : arT Tryz.prog 37 = Option.none := by kernel_rfl
theorem f_boolT_3 : boolT Tryz.prog 3 = Bool.false := by kernel_rfl
theorem f_boolT_46 : boolT Tryz.prog 46 = Bool.false := by kernel_rfl
theorem f_byT_33 : byT Tryz.prog 33 = (Option.some 16) := by kernel_rfl
theorem f_byT_42 : byT Tryz.prog 42 = (Option.some 32) := by kernel_rfl
theorem f_byT_46 : byT Tryz.prog 46 = (Option.some 72) := by kernel_rfl
theorem f_fldT_33_0 : fldT Tryz.prog 33 0 = (Option.some 0) := by kernel_rfl
theorem f_fldT_33_1 : fldT Tryz.prog 33 1 = (Option.some 1) := by kernel_rfl
theorem f_fldT_42_0 : fldT Tryz.prog 42 0 = (Option.some 0) := by kernel_rfl
theorem f_fldT_42_1 : fldT Tryz.prog 42 1 = (Option.some 1) := by kernel_rfl
theorem f_fldT_42_2 : fldT Tryz.prog 42 2 = (Option.some 2) := by kernel_rfl
theorem f_fldT_46_1 : fldT Tryz.prog 46 1 = (Option.some 1) := by kernel_rfl
theorem f_fldT_46_6 : fldT Tryz.prog 46 6 = (Option.some 6) := by kernel_rfl
theorem f_fldT_46_7 : fldT Tryz.prog 46 7 = (Option.some 7) := by kernel_rfl
theorem f_fnOk_15 : fnOk Tryz.prog 15 = Bool.true := by kernel_rfl
theorem f_fnOk_16 : fnOk Tryz.prog 16 = Bool.true := by kernel_rfl
theorem f_fnOk_17 : fnOk Tryz.prog 17 = Bool.true := by kernel_rfl
theorem f_fnOk_30 : fnOk Tryz.prog 30 = Bool.true := by kernel_rfl
theorem f_fnOk_7 : fnOk Tryz.prog 7 = Bool.true := by kernel_rfl
theorem f_intT_3 : intT Tryz.prog 3 = (Option.some Go.IntKind.i64) := by kernel_rfl
theorem f_intT_46 : intT Tryz.prog 46 = Option.none := by kernel_rfl
theorem f_kdT_3 : kdT Tryz.prog 3 = (Option.some (Go.FM.Kd.int Go.IntKind.i64)) := by kernel_rfl
theorem f_kdT_33 : kdT Tryz.prog 33 = Option.none := by kernel_rfl
theorem f_kdT_46 : kdT Tryz.prog 46 = Option.none := by kernel_rfl
theorem f_ldT_3 : ldT Tryz.prog 3 = (Option.some Option.none) := by kernel_rfl
theorem f_ldT_42 : ldT Tryz.prog 42 = (Option.some (Option.some 4)) := by kernel_rfl
theorem f_ldT_46 : ldT Tryz.prog 46 = (Option.some (Option.some 9)) := by kernel_rfl
theorem f_mpT_70 : mpT Tryz.prog 70 = (Option.some (33, 4)) := by kernel_rfl
theorem f_nilT_3 : nilT Tryz.prog 3 = Option.none := by kernel_rfl
theorem f_nilT_46 : nilT Tryz.prog 46 = Option.none := by kernel_rfl
theorem f_placesT_33 : placesT Tryz.prog 33 = (Option.some ((0, 1) :: ((1, 1) :: []))) := by kernel_rfl
theorem f_placesT_42 : placesT Tryz.prog 42 = (Option.some ((0, 1) :: ((1, 1) :: ((2, 1) :: ((3, 1) :: []))))) := by kernel_rfl
theorem f_slT_29 : slT Tryz.prog 29 = (Option.some (33, 2)) := by kernel_rfl
theorem f_slT_35 : slT Tryz.prog 35 = (Option.some (42, 4)) := by kernel_rfl
theorem f_slT_37 : slT Tryz.prog 37 = (Option.some (46, 9)) := by kernel_rfl
theorem f_stT_3 : stT Tryz.prog 3 = Option.none := by kernel_rfl
theorem f_stT_33 : stT Tryz.prog 33 = (Option.some ((Go.FM.Kd.int Go.IntKind.i64) :: ((Go.FM.Kd.int Go.IntKind.i64) :: []))) := by kernel_rfl
theorem f_stT_46 : stT Tryz.prog 46 = (Option.some ((Go.FM.Kd.int Go.IntKind.i64) :: ((Go.FM.Kd.int Go.IntKind.i64) :: ((Go.FM.Kd.int Go.IntKind.i64) :: ((Go.FM.Kd.int Go.IntKind.i64) :: ((Go.FM.Kd.int Go.IntKind.i64) :: ((Go.FM.Kd.int Go.IntKind.i64) :: ((Go.FM.Kd.int Go.IntKind.i64) :: ((Go.FM.Kd.int Go.IntKind.i64) :: ((Go.FM.Kd.int Go.IntKind.i64) :: [])))))))))) := by kernel_rfl
theorem f_strT_29 : strT Tryz.prog 29 = Bool.false := by kernel_rfl
theorem f_strT_35 : strT Tryz.prog 35 = Bool.false := by kernel_rfl
theorem f_strT_37 : strT Tryz.prog 37 = Bool.false := by kernel_rfl
theorem f_szT_42 : szT Tryz.prog 42 = (Option.some 4) := by kernel_rfl
theorem f_szT_46 : szT Tryz.prog 46 = (Option.some 9) := by kernel_rfl
theorem f_zeroC_33 : zeroC Tryz.prog 33 = (Option.some ((Go.FM.FV.int Go.IntKind.i64 0) :: ((Go.FM.FV.int Go.IntKind.i64 0) :: []))) := by kernel_rfl
theorem f_zeroC_42 : zeroC Tryz.prog 42 = (Option.some ((Go.FM.FV.int Go.IntKind.i64 0) :: ((Go.FM.FV.int Go.IntKind.i64 0) :: ((Go.FM.FV.int Go.IntKind.i64 0) :: ((Go.FM.FV.int Go.IntKind.i64 0) :: []))))) := by kernel_rfl
theorem f_zeroC_46 : zeroC Tryz.prog 46 = (Option.some ((Go.FM.FV.int Go.IntKind.i64 0) :: ((Go.FM.FV.int Go.IntKind.i64 0) :: ((Go.FM.FV.int Go.IntKind.i64 0) :: ((Go.FM.FV.int Go.IntKind.i64 0) :: ((Go.FM.FV.int Go.IntKind.i64 0) :: ((Go.FM.FV.int Go.IntKind.i64 0) :: ((Go.FM.FV.int Go.IntKind.i64 0) :: ((Go.FM.FV.int Go.IntKind.i64 0) :: ((Go.FM.FV.int Go.IntKind.i64 0) :: [])))))))))) := by kernel_rfl
theorem f_zeroV_4 : zeroV Tryz.prog 4 = (Option.some (Go.FM.FV.bool Bool.false)) := by kernel_rfl

theorem wr (n : Int) (h : -9223372036854775808 ≤ n) (h' : n < 9223372036854775808) : IntKind.wrap .i64 n = n := by
  rw [IntKind.wrap_i64]; omega
theorem wr_inc {i : Nat} {m : Nat} (h : i < m) (hm : m ≤ 1000000000) : IntKind.wrap .i64 ((i : Int) + 1) = ((i + 1 : Nat) : Int) := by rw [wr _ (by omega) (by omega)]; omega
end Go.Gc
