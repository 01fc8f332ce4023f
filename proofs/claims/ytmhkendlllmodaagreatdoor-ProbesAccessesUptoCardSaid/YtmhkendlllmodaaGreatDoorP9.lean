/- Texts of a proof by an abstract machine over the model. -/
import Derived.Test.YtmhkendlllmodaaGreatDoorP7
import Derived.Test.YtmhkendlllmodaaGreatDoorP5
import Derived.Test.YtmhkendlllmodaaGreatDoorP4
import Derived.Test.YtmhkendlllmodaaGreatDoorCards
import Derived.Test.YtmhkendlllmodaaGreatDoorP6
import Derived.WalkKit
set_option linter.unusedSimpArgs false
set_option linter.unusedVariables false
namespace Go.Gc
open Go Go.FM Go.Gv Go.Proofs
set_option maxRecDepth 100000
set_option maxHeartbeats 4000000
theorem f_Program_eqGuardType_Program_depth_33 : Program.eqGuardType Tryz.prog (Program.depth Tryz.prog) 33 = Bool.false := by kernel_rfl
theorem f_Program_eqGuardType_Program_depth_4 : Program.eqGuardType Tryz.prog (Program.depth Tryz.prog) 4 = Bool.false := by kernel_rfl
theorem f_Program_eqGuardType_Program_depth_5 : Program.eqGuardType Tryz.prog (Program.depth Tryz.prog) 5 = Bool.false := by kernel_rfl
theorem f_Program_eqGuardType_Program_depth_9 : Program.eqGuardType Tryz.prog (Program.depth Tryz.prog) 9 = Bool.false := by kernel_rfl
theorem f_arE_147 : arE Tryz.prog 147 = Option.none := by kernel_rfl
theorem f_arE_150 : arE Tryz.prog 150 = (Option.some (3, 3)) := by kernel_rfl
theorem f_arE_174 : arE Tryz.prog 174 = (Option.some (53, 147)) := by kernel_rfl
theorem f_arE_26 : arE Tryz.prog 26 = Option.none := by kernel_rfl
theorem f_arE_33 : arE Tryz.prog 33 = Option.none := by kernel_rfl
theorem f_arE_78 : arE Tryz.prog 78 = Option.none := by kernel_rfl
theorem f_arE_9 : arE Tryz.prog 9 = Option.none := by kernel_rfl
theorem f_arT_174 : arT Tryz.prog 174 = (Option.some (53, 2)) := by kernel_rfl
theorem f_arT_22 : arT Tryz.prog 22 = Option.none := by kernel_rfl
theorem f_arT_23 : arT Tryz.prog 23 = Option.none := by kernel_rfl
theorem f_arT_24 : arT Tryz.prog 24 = Option.none := by kernel_rfl
theorem f_arT_47 : arT Tryz.prog 47 = Option.none := by kernel_rfl
theorem f_arT_53 : arT Tryz.prog 53 = Option.none := by kernel_rfl
theorem f_boolT_33 : boolT Tryz.prog 33 = Bool.false := by kernel_rfl
theorem f_boolT_4 : boolT Tryz.prog 4 = Bool.true := by kernel_rfl
theorem f_boolT_5 : boolT Tryz.prog 5 = Bool.false := by kernel_rfl
theorem f_boolT_9 : boolT Tryz.prog 9 = Bool.false := by kernel_rfl
theorem f_byT_3 : byT Tryz.prog 3 = (Option.some 8) := by kernel_rfl
theorem f_byT_49 : byT Tryz.prog 49 = (Option.some 56) := by kernel_rfl
theorem f_byT_51 : byT Tryz.prog 51 = (Option.some 40) := by kernel_rfl
theorem f_byT_53 : byT Tryz.prog 53 = (Option.some 24) := by kernel_rfl
theorem f_byT_73 : byT Tryz.prog 73 = (Option.some 24) := by kernel_rfl
theorem f_byT_9 : byT Tryz.prog 9 = (Option.some 16) := by kernel_rfl
theorem f_fldT_147_1 : fldT Tryz.prog 147 1 = (Option.some 1) := by kernel_rfl
theorem f_fldT_26_0 : fldT Tryz.prog 26 0 = (Option.some 0) := by kernel_rfl
theorem f_fldT_26_1 : fldT Tryz.prog 26 1 = (Option.some 1) := by kernel_rfl
theorem f_fldT_26_2 : fldT Tryz.prog 26 2 = (Option.some 2) := by kernel_rfl
theorem f_fldT_26_3 : fldT Tryz.prog 26 3 = (Option.some 3) := by kernel_rfl
theorem f_fldT_49_0 : fldT Tryz.prog 49 0 = (Option.some 0) := by kernel_rfl
theorem f_fldT_49_1 : fldT Tryz.prog 49 1 = (Option.some 1) := by kernel_rfl
theorem f_fldT_49_2 : fldT Tryz.prog 49 2 = (Option.some 2) := by kernel_rfl
theorem f_fldT_49_3 : fldT Tryz.prog 49 3 = (Option.some 3) := by kernel_rfl
theorem f_fldT_51_0 : fldT Tryz.prog 51 0 = (Option.some 0) := by kernel_rfl
theorem f_fldT_51_1 : fldT Tryz.prog 51 1 = (Option.some 1) := by kernel_rfl
theorem f_fldT_51_2 : fldT Tryz.prog 51 2 = (Option.some 2) := by kernel_rfl
theorem f_fldT_51_3 : fldT Tryz.prog 51 3 = (Option.some 3) := by kernel_rfl
theorem f_fldT_51_4 : fldT Tryz.prog 51 4 = (Option.some 4) := by kernel_rfl
theorem f_fldT_73_0 : fldT Tryz.prog 73 0 = (Option.some 0) := by kernel_rfl
theorem f_fldT_73_1 : fldT Tryz.prog 73 1 = (Option.some 1) := by kernel_rfl
theorem f_fldT_78_0 : fldT Tryz.prog 78 0 = (Option.some 0) := by kernel_rfl
theorem f_fldT_78_1 : fldT Tryz.prog 78 1 = (Option.some 4) := by kernel_rfl
theorem f_fnOk_10 : fnOk Tryz.prog 10 = Bool.true := by kernel_rfl
theorem f_fnOk_109 : fnOk Tryz.prog 109 = Bool.true := by kernel_rfl
theorem f_fnOk_11 : fnOk Tryz.prog 11 = Bool.true := by kernel_rfl
theorem f_fnOk_113 : fnOk Tryz.prog 113 = Bool.true := by kernel_rfl
theorem f_fnOk_114 : fnOk Tryz.prog 114 = Bool.true := by kernel_rfl
theorem f_fnOk_130 : fnOk Tryz.prog 130 = Bool.true := by kernel_rfl
theorem f_fnOk_19 : fnOk Tryz.prog 19 = Bool.true := by kernel_rfl
theorem f_fnOk_20 : fnOk Tryz.prog 20 = Bool.true := by kernel_rfl
theorem f_fnOk_21 : fnOk Tryz.prog 21 = Bool.true := by kernel_rfl
theorem f_fnOk_22 : fnOk Tryz.prog 22 = Bool.true := by kernel_rfl
theorem f_fnOk_31 : fnOk Tryz.prog 31 = Bool.true := by kernel_rfl
theorem f_fnOk_32 : fnOk Tryz.prog 32 = Bool.true := by kernel_rfl
theorem f_fnOk_33 : fnOk Tryz.prog 33 = Bool.true := by kernel_rfl
theorem f_fnOk_34 : fnOk Tryz.prog 34 = Bool.true := by kernel_rfl
theorem f_fnOk_35 : fnOk Tryz.prog 35 = Bool.true := by kernel_rfl
theorem f_fnOk_36 : fnOk Tryz.prog 36 = Bool.true := by kernel_rfl
theorem f_fnOk_37 : fnOk Tryz.prog 37 = Bool.true := by kernel_rfl
theorem f_fnOk_38 : fnOk Tryz.prog 38 = Bool.true := by kernel_rfl
theorem f_fnOk_60 : fnOk Tryz.prog 60 = Bool.true := by kernel_rfl
theorem f_fnOk_61 : fnOk Tryz.prog 61 = Bool.true := by kernel_rfl
theorem f_fnOk_62 : fnOk Tryz.prog 62 = Bool.true := by kernel_rfl
theorem f_fnOk_63 : fnOk Tryz.prog 63 = Bool.true := by kernel_rfl
theorem f_fnOk_64 : fnOk Tryz.prog 64 = Bool.true := by kernel_rfl
theorem f_fnOk_65 : fnOk Tryz.prog 65 = Bool.true := by kernel_rfl
theorem f_fnOk_66 : fnOk Tryz.prog 66 = Bool.true := by kernel_rfl
theorem f_fnOk_8 : fnOk Tryz.prog 8 = Bool.true := by kernel_rfl
theorem f_fnOk_9 : fnOk Tryz.prog 9 = Bool.true := by kernel_rfl
theorem f_fnOk_92 : fnOk Tryz.prog 92 = Bool.true := by kernel_rfl
theorem f_intT_33 : intT Tryz.prog 33 = Option.none := by kernel_rfl
theorem f_intT_4 : intT Tryz.prog 4 = Option.none := by kernel_rfl
theorem f_intT_5 : intT Tryz.prog 5 = (Option.some Go.IntKind.u8) := by kernel_rfl
theorem f_intT_9 : intT Tryz.prog 9 = Option.none := by kernel_rfl
theorem f_kdT_4 : kdT Tryz.prog 4 = (Option.some Go.FM.Kd.bool) := by kernel_rfl
theorem f_kdT_5 : kdT Tryz.prog 5 = (Option.some (Go.FM.Kd.int Go.IntKind.u8)) := by kernel_rfl
theorem f_kdT_9 : kdT Tryz.prog 9 = (Option.some Go.FM.Kd.str) := by kernel_rfl
theorem f_ldT_147 : ldT Tryz.prog 147 = (Option.some (Option.some 2)) := by kernel_rfl
theorem f_ldT_174 : ldT Tryz.prog 174 = (Option.some (Option.some 106)) := by kernel_rfl
theorem f_ldT_22 : ldT Tryz.prog 22 = (Option.some Option.none) := by kernel_rfl
theorem f_ldT_23 : ldT Tryz.prog 23 = (Option.some Option.none) := by kernel_rfl
theorem f_ldT_24 : ldT Tryz.prog 24 = (Option.some Option.none) := by kernel_rfl
theorem f_ldT_26 : ldT Tryz.prog 26 = (Option.some (Option.some 4)) := by kernel_rfl
theorem f_ldT_33 : ldT Tryz.prog 33 = (Option.some (Option.some 2)) := by kernel_rfl
theorem f_ldT_47 : ldT Tryz.prog 47 = (Option.some Option.none) := by kernel_rfl
theorem f_ldT_49 : ldT Tryz.prog 49 = (Option.some (Option.some 4)) := by kernel_rfl
theorem f_ldT_51 : ldT Tryz.prog 51 = (Option.some (Option.some 5)) := by kernel_rfl
theorem f_ldT_53 : ldT Tryz.prog 53 = (Option.some Option.none) := by kernel_rfl
theorem f_ldT_73 : ldT Tryz.prog 73 = (Option.some (Option.some 2)) := by kernel_rfl
theorem f_ldT_78 : ldT Tryz.prog 78 = (Option.some (Option.some 8)) := by kernel_rfl
theorem f_ldT_9 : ldT Tryz.prog 9 = (Option.some Option.none) := by kernel_rfl
theorem f_nilT_33 : nilT Tryz.prog 33 = Option.none := by kernel_rfl
theorem f_nilT_4 : nilT Tryz.prog 4 = Option.none := by kernel_rfl
theorem f_nilT_5 : nilT Tryz.prog 5 = Option.none := by kernel_rfl
theorem f_nilT_9 : nilT Tryz.prog 9 = Option.none := by kernel_rfl
theorem f_placesT_147 : placesT Tryz.prog 147 = (Option.some ((0, 1) :: ((1, 1) :: []))) := by kernel_rfl
theorem f_placesT_150 : placesT Tryz.prog 150 = Option.none := by kernel_rfl
theorem f_placesT_174 : placesT Tryz.prog 174 = Option.none := by kernel_rfl
theorem f_placesT_26 : placesT Tryz.prog 26 = (Option.some ((0, 1) :: ((1, 1) :: ((2, 1) :: ((3, 1) :: []))))) := by kernel_rfl
theorem f_placesT_78 : placesT Tryz.prog 78 = (Option.some ((0, 4) :: ((4, 4) :: []))) := by kernel_rfl
theorem f_slT_174 : slT Tryz.prog 174 = Option.none := by kernel_rfl
theorem f_slT_22 : slT Tryz.prog 22 = (Option.some (49, 4)) := by kernel_rfl
theorem f_slT_23 : slT Tryz.prog 23 = (Option.some (73, 2)) := by kernel_rfl
theorem f_slT_24 : slT Tryz.prog 24 = (Option.some (53, 1)) := by kernel_rfl
theorem f_slT_3 : slT Tryz.prog 3 = Option.none := by kernel_rfl
theorem f_slT_47 : slT Tryz.prog 47 = (Option.some (51, 5)) := by kernel_rfl
theorem f_slT_53 : slT Tryz.prog 53 = (Option.some (3, 1)) := by kernel_rfl
theorem f_slT_76 : slT Tryz.prog 76 = (Option.some (9, 1)) := by kernel_rfl
theorem f_stT_4 : stT Tryz.prog 4 = Option.none := by kernel_rfl
theorem f_stT_5 : stT Tryz.prog 5 = Option.none := by kernel_rfl
theorem f_stT_9 : stT Tryz.prog 9 = Option.none := by kernel_rfl
theorem f_strT_150 : strT Tryz.prog 150 = Bool.false := by kernel_rfl
theorem f_strT_22 : strT Tryz.prog 22 = Bool.false := by kernel_rfl
theorem f_strT_23 : strT Tryz.prog 23 = Bool.false := by kernel_rfl
theorem f_strT_24 : strT Tryz.prog 24 = Bool.false := by kernel_rfl
theorem f_strT_3 : strT Tryz.prog 3 = Bool.false := by kernel_rfl
theorem f_strT_47 : strT Tryz.prog 47 = Bool.false := by kernel_rfl
theorem f_strT_53 : strT Tryz.prog 53 = Bool.false := by kernel_rfl
theorem f_strT_76 : strT Tryz.prog 76 = Bool.false := by kernel_rfl
theorem f_strT_9 : strT Tryz.prog 9 = Bool.true := by kernel_rfl
theorem f_szT_147 : szT Tryz.prog 147 = (Option.some 2) := by kernel_rfl
theorem f_szT_174 : szT Tryz.prog 174 = (Option.some 106) := by kernel_rfl
theorem f_szT_22 : szT Tryz.prog 22 = (Option.some 1) := by kernel_rfl
theorem f_szT_24 : szT Tryz.prog 24 = (Option.some 1) := by kernel_rfl
theorem f_szT_26 : szT Tryz.prog 26 = (Option.some 4) := by kernel_rfl
theorem f_szT_3 : szT Tryz.prog 3 = (Option.some 1) := by kernel_rfl
theorem f_szT_47 : szT Tryz.prog 47 = (Option.some 1) := by kernel_rfl
theorem f_szT_49 : szT Tryz.prog 49 = (Option.some 4) := by kernel_rfl
theorem f_szT_51 : szT Tryz.prog 51 = (Option.some 5) := by kernel_rfl
theorem f_szT_73 : szT Tryz.prog 73 = (Option.some 2) := by kernel_rfl
theorem f_szT_78 : szT Tryz.prog 78 = (Option.some 8) := by kernel_rfl
theorem f_zeroC_147 : zeroC Tryz.prog 147 = (Option.some ((Go.FM.FV.str (ByteArray.mk (Array.mk []))) :: ((Go.FM.FV.str (ByteArray.mk (Array.mk []))) :: []))) := by kernel_rfl
theorem f_zeroC_150 : zeroC Tryz.prog 150 = (Option.some ((Go.FM.FV.int Go.IntKind.i64 0) :: ((Go.FM.FV.int Go.IntKind.i64 0) :: ((Go.FM.FV.int Go.IntKind.i64 0) :: [])))) := by kernel_rfl
theorem f_zeroC_174 : zeroC Tryz.prog 174 = (Option.some ((Go.FM.FV.str (ByteArray.mk (Array.mk []))) :: ((Go.FM.FV.str (ByteArray.mk (Array.mk []))) :: ((Go.FM.FV.str (ByteArray.mk (Array.mk []))) :: ((Go.FM.FV.str (ByteArray.mk (Array.mk []))) :: ((Go.FM.FV.str (ByteArray.mk (Array.mk []))) :: ((Go.FM.FV.str (ByteArray.mk (Array.mk []))) :: ((Go.FM.FV.str (ByteArray.mk (Array.mk []))) :: ((Go.FM.FV.str (ByteArray.mk (Array.mk []))) :: ((Go.FM.FV.str (ByteArray.mk (Array.mk []))) :: ((Go.FM.FV.str (ByteArray.mk (Array.mk []))) :: ((Go.FM.FV.str (ByteArray.mk (Array.mk []))) :: ((Go.FM.FV.str (ByteArray.mk (Array.mk []))) :: ((Go.FM.FV.str (ByteArray.mk (Array.mk []))) :: ((Go.FM.FV.str (ByteArray.mk (Array.mk []))) :: ((Go.FM.FV.str (ByteArray.mk (Array.mk []))) :: ((Go.FM.FV.str (ByteArray.mk (Array.mk []))) :: ((Go.FM.FV.str (ByteArray.mk (Array.mk []))) :: ((Go.FM.FV.str (ByteArray.mk (Array.mk []))) :: ((Go.FM.FV.str (ByteArray.mk (Array.mk []))) :: ((Go.FM.FV.str (ByteArray.mk (Array.mk []))) :: ((Go.FM.FV.str (ByteArray.mk (Array.mk []))) :: ((Go.FM.FV.str (ByteArray.mk (Array.mk []))) :: ((Go.FM.FV.str (ByteArray.mk (Array.mk []))) :: ((Go.FM.FV.str (ByteArray.mk (Array.mk []))) :: ((Go.FM.FV.str (ByteArray.mk (Array.mk []))) :: ((Go.FM.FV.str (ByteArray.mk (Array.mk []))) :: ((Go.FM.FV.str (ByteArray.mk (Array.mk []))) :: ((Go.FM.FV.str (ByteArray.mk (Array.mk []))) :: ((Go.FM.FV.str (ByteArray.mk (Array.mk []))) :: ((Go.FM.FV.str (ByteArray.mk (Array.mk []))) :: ((Go.FM.FV.str (ByteArray.mk (Array.mk []))) :: ((Go.FM.FV.str (ByteArray.mk (Array.mk []))) :: ((Go.FM.FV.str (ByteArray.mk (Array.mk []))) :: ((Go.FM.FV.str (ByteArray.mk (Array.mk []))) :: ((Go.FM.FV.str (ByteArray.mk (Array.mk []))) :: ((Go.FM.FV.str (ByteArray.mk (Array.mk []))) :: ((Go.FM.FV.str (ByteArray.mk (Array.mk []))) :: ((Go.FM.FV.str (ByteArray.mk (Array.mk []))) :: ((Go.FM.FV.str (ByteArray.mk (Array.mk []))) :: ((Go.FM.FV.str (ByteArray.mk (Array.mk []))) :: ((Go.FM.FV.str (ByteArray.mk (Array.mk []))) :: ((Go.FM.FV.str (ByteArray.mk (Array.mk []))) :: ((Go.FM.FV.str (ByteArray.mk (Array.mk []))) :: ((Go.FM.FV.str (ByteArray.mk (Array.mk []))) :: ((Go.FM.FV.str (ByteArray.mk (Array.mk []))) :: ((Go.FM.FV.str (ByteArray.mk (Array.mk []))) :: ((Go.FM.FV.str (ByteArray.mk (Array.mk []))) :: ((Go.FM.FV.str (ByteArray.mk (Array.mk []))) :: ((Go.FM.FV.str (ByteArray.mk (Array.mk []))) :: ((Go.FM.FV.str (ByteArray.mk (Array.mk []))) :: ((Go.FM.FV.str (ByteArray.mk (Array.mk []))) :: ((Go.FM.FV.str (ByteArray.mk (Array.mk []))) :: ((Go.FM.FV.str (ByteArray.mk (Array.mk []))) :: ((Go.FM.FV.str (ByteArray.mk (Array.mk []))) :: ((Go.FM.FV.str (ByteArray.mk (Array.mk []))) :: ((Go.FM.FV.str (ByteArray.mk (Array.mk []))) :: ((Go.FM.FV.str (ByteArray.mk (Array.mk []))) :: ((Go.FM.FV.str (ByteArray.mk (Array.mk []))) :: ((Go.FM.FV.str (ByteArray.mk (Array.mk []))) :: ((Go.FM.FV.str (ByteArray.mk (Array.mk []))) :: ((Go.FM.FV.str (ByteArray.mk (Array.mk []))) :: ((Go.FM.FV.str (ByteArray.mk (Array.mk []))) :: ((Go.FM.FV.str (ByteArray.mk (Array.mk []))) :: ((Go.FM.FV.str (ByteArray.mk (Array.mk []))) :: ((Go.FM.FV.str (ByteArray.mk (Array.mk []))) :: ((Go.FM.FV.str (ByteArray.mk (Array.mk []))) :: ((Go.FM.FV.str (ByteArray.mk (Array.mk []))) :: ((Go.FM.FV.str (ByteArray.mk (Array.mk []))) :: ((Go.FM.FV.str (ByteArray.mk (Array.mk []))) :: ((Go.FM.FV.str (ByteArray.mk (Array.mk []))) :: ((Go.FM.FV.str (ByteArray.mk (Array.mk []))) :: ((Go.FM.FV.str (ByteArray.mk (Array.mk []))) :: ((Go.FM.FV.str (ByteArray.mk (Array.mk []))) :: ((Go.FM.FV.str (ByteArray.mk (Array.mk []))) :: ((Go.FM.FV.str (ByteArray.mk (Array.mk []))) :: ((Go.FM.FV.str (ByteArray.mk (Array.mk []))) :: ((Go.FM.FV.str (ByteArray.mk (Array.mk []))) :: ((Go.FM.FV.str (ByteArray.mk (Array.mk []))) :: ((Go.FM.FV.str (ByteArray.mk (Array.mk []))) :: ((Go.FM.FV.str (ByteArray.mk (Array.mk []))) :: ((Go.FM.FV.str (ByteArray.mk (Array.mk []))) :: ((Go.FM.FV.str (ByteArray.mk (Array.mk []))) :: ((Go.FM.FV.str (ByteArray.mk (Array.mk []))) :: ((Go.FM.FV.str (ByteArray.mk (Array.mk []))) :: ((Go.FM.FV.str (ByteArray.mk (Array.mk []))) :: ((Go.FM.FV.str (ByteArray.mk (Array.mk []))) :: ((Go.FM.FV.str (ByteArray.mk (Array.mk []))) :: ((Go.FM.FV.str (ByteArray.mk (Array.mk []))) :: ((Go.FM.FV.str (ByteArray.mk (Array.mk []))) :: ((Go.FM.FV.str (ByteArray.mk (Array.mk []))) :: ((Go.FM.FV.str (ByteArray.mk (Array.mk []))) :: ((Go.FM.FV.str (ByteArray.mk (Array.mk []))) :: ((Go.FM.FV.str (ByteArray.mk (Array.mk []))) :: ((Go.FM.FV.str (ByteArray.mk (Array.mk []))) :: ((Go.FM.FV.str (ByteArray.mk (Array.mk []))) :: ((Go.FM.FV.str (ByteArray.mk (Array.mk []))) :: ((Go.FM.FV.str (ByteArray.mk (Array.mk []))) :: ((Go.FM.FV.str (ByteArray.mk (Array.mk []))) :: ((Go.FM.FV.str (ByteArray.mk (Array.mk []))) :: ((Go.FM.FV.str (ByteArray.mk (Array.mk []))) :: ((Go.FM.FV.str (ByteArray.mk (Array.mk []))) :: ((Go.FM.FV.str (ByteArray.mk (Array.mk []))) :: ((Go.FM.FV.str (ByteArray.mk (Array.mk []))) :: ((Go.FM.FV.str (ByteArray.mk (Array.mk []))) :: ((Go.FM.FV.str (ByteArray.mk (Array.mk []))) :: ((Go.FM.FV.str (ByteArray.mk (Array.mk []))) :: []))))))))))))))))))))))))))))))))))))))))))))))))))))))))))))))))))))))))))))))))))))))))))))))))))))))))))) := by kernel_rfl
theorem f_zeroC_26 : zeroC Tryz.prog 26 = (Option.some (Go.FM.FV.nils :: (Go.FM.FV.nils :: (Go.FM.FV.nils :: ((Go.FM.FV.int Go.IntKind.i64 0) :: []))))) := by kernel_rfl
theorem f_zeroC_3 : zeroC Tryz.prog 3 = (Option.some ((Go.FM.FV.int Go.IntKind.i64 0) :: [])) := by kernel_rfl
theorem f_zeroC_49 : zeroC Tryz.prog 49 = (Option.some ((Go.FM.FV.str (ByteArray.mk (Array.mk []))) :: ((Go.FM.FV.int Go.IntKind.i64 0) :: ((Go.FM.FV.int Go.IntKind.i64 0) :: (Go.FM.FV.nils :: []))))) := by kernel_rfl
theorem f_zeroC_51 : zeroC Tryz.prog 51 = (Option.some ((Go.FM.FV.int Go.IntKind.i64 0) :: ((Go.FM.FV.int Go.IntKind.i64 0) :: ((Go.FM.FV.int Go.IntKind.i64 0) :: ((Go.FM.FV.int Go.IntKind.i64 0) :: ((Go.FM.FV.int Go.IntKind.i64 0) :: [])))))) := by kernel_rfl
theorem f_zeroC_53 : zeroC Tryz.prog 53 = (Option.some (Go.FM.FV.nils :: [])) := by kernel_rfl
theorem f_zeroC_73 : zeroC Tryz.prog 73 = (Option.some ((Go.FM.FV.str (ByteArray.mk (Array.mk []))) :: ((Go.FM.FV.int Go.IntKind.i64 0) :: []))) := by kernel_rfl
theorem f_zeroC_78 : zeroC Tryz.prog 78 = (Option.some (Go.FM.FV.nils :: (Go.FM.FV.nils :: (Go.FM.FV.nils :: ((Go.FM.FV.int Go.IntKind.i64 0) :: ((Go.FM.FV.str (ByteArray.mk (Array.mk []))) :: ((Go.FM.FV.int Go.IntKind.i64 0) :: ((Go.FM.FV.int Go.IntKind.i64 0) :: (Go.FM.FV.nils :: []))))))))) := by kernel_rfl
theorem f_zeroC_9 : zeroC Tryz.prog 9 = (Option.some ((Go.FM.FV.str (ByteArray.mk (Array.mk []))) :: [])) := by kernel_rfl
def intRow (n : Int) : List FV := [.int .i64 n]
def ints (L : List (Int)) : List (List FV) := L.map intRow
theorem ints_length (L : List (Int)) : (ints L).length = L.length := by simp [ints]
theorem ints_at {L : List (Int)} {i : Nat} (h : i < (ints L).length) : (ints L)[i] = intRow (L[i]'(by rwa [ints_length] at h)) := by simp [ints]
theorem ints_append (a b : List (Int)) : ints (a ++ b) = ints a ++ ints b := by simp [ints]
theorem ints_one (a : Int) : ints [a] = [intRow a] := rfl
theorem ints_nil : ints [] = [] := rfl
theorem ints_take (n : Nat) (l : List (Int)) : (ints l).take n = ints (l.take n) := by simp [ints, List.map_take]
theorem nlss_ints (L : List (Int)) : nlss (ints L) = true := by
  induction L with
  | nil => rfl
  | cons r rs ih => simpa [ints, nlss, nls, nl, intRow] using ih
theorem cell_ints (L : List (Int)) : (ints L).flatten.all FV.cellV = true := by
  induction L with
  | nil => rfl
  | cons r rs ih => simp [ints, FV.cellV, intRow]
def _root_.Go.Gv.Ins.row (e : Ins) : List FV := [.int .i64 e.op, .int .i64 e.a, .int .i64 e.b, .int .i64 e.c, .int .i64 e.d]
def inss (L : List (Ins)) : List (List FV) := L.map Ins.row
theorem inss_length (L : List (Ins)) : (inss L).length = L.length := by simp [inss]
theorem inss_at {L : List (Ins)} {i : Nat} (h : i < (inss L).length) : (inss L)[i] = Ins.row (L[i]'(by rwa [inss_length] at h)) := by simp [inss]
theorem inss_append (a b : List (Ins)) : inss (a ++ b) = inss a ++ inss b := by simp [inss]
theorem inss_one (a : Ins) : inss [a] = [Ins.row a] := rfl
theorem inss_nil : inss [] = [] := rfl
theorem inss_take (n : Nat) (l : List (Ins)) : (inss l).take n = inss (l.take n) := by simp [inss, List.map_take]
theorem nlss_inss (L : List (Ins)) : nlss (inss L) = true := by
  induction L with
  | nil => rfl
  | cons r rs ih => simpa [inss, nlss, nls, nl, Ins.row] using ih
theorem cell_inss (L : List (Ins)) : (inss L).flatten.all FV.cellV = true := by
  induction L with
  | nil => rfl
  | cons r rs ih => simp [inss, FV.cellV, Ins.row]
def _root_.Go.Gv.FnD.row (e : FnD) : List FV := [.str e.name, .int .i64 e.params, .int .i64 e.regs, .list 5 (inss e.code)]
def fns (L : List (FnD)) : List (List FV) := L.map FnD.row
theorem fns_length (L : List (FnD)) : (fns L).length = L.length := by simp [fns]
theorem fns_at {L : List (FnD)} {i : Nat} (h : i < (fns L).length) : (fns L)[i] = FnD.row (L[i]'(by rwa [fns_length] at h)) := by simp [fns]
theorem fns_append (a b : List (FnD)) : fns (a ++ b) = fns a ++ fns b := by simp [fns]
theorem fns_one (a : FnD) : fns [a] = [FnD.row a] := rfl
theorem fns_nil : fns [] = [] := rfl
theorem fns_take (n : Nat) (l : List (FnD)) : (fns l).take n = fns (l.take n) := by simp [fns, List.map_take]
theorem nlss_fns (L : List (FnD)) : nlss (fns L) = true := by
  induction L with
  | nil => rfl
  | cons r rs ih => simpa [fns, nlss, nls, nl, FnD.row, nlss_inss] using ih
theorem cell_fns (L : List (FnD)) : (fns L).flatten.all FV.cellV = true := by
  induction L with
  | nil => rfl
  | cons r rs ih => simp [fns, FV.cellV, FnD.row]
def _root_.Go.Gv.Gb.row (e : Gb) : List FV := [.str e.name, .int .i64 e.kind]
def gbs (L : List (Gb)) : List (List FV) := L.map Gb.row
theorem gbs_length (L : List (Gb)) : (gbs L).length = L.length := by simp [gbs]
theorem gbs_at {L : List (Gb)} {i : Nat} (h : i < (gbs L).length) : (gbs L)[i] = Gb.row (L[i]'(by rwa [gbs_length] at h)) := by simp [gbs]
theorem gbs_append (a b : List (Gb)) : gbs (a ++ b) = gbs a ++ gbs b := by simp [gbs]
theorem gbs_one (a : Gb) : gbs [a] = [Gb.row a] := rfl
theorem gbs_nil : gbs [] = [] := rfl
theorem gbs_take (n : Nat) (l : List (Gb)) : (gbs l).take n = gbs (l.take n) := by simp [gbs, List.map_take]
theorem nlss_gbs (L : List (Gb)) : nlss (gbs L) = true := by
  induction L with
  | nil => rfl
  | cons r rs ih => simpa [gbs, nlss, nls, nl, Gb.row] using ih
theorem cell_gbs (L : List (Gb)) : (gbs L).flatten.all FV.cellV = true := by
  induction L with
  | nil => rfl
  | cons r rs ih => simp [gbs, FV.cellV, Gb.row]
def layRow (l : List Int) : List FV := [.list 1 (ints l)]
def lays (L : List (List Int)) : List (List FV) := L.map layRow
theorem lays_length (L : List (List Int)) : (lays L).length = L.length := by simp [lays]
theorem lays_at {L : List (List Int)} {i : Nat} (h : i < (lays L).length) : (lays L)[i] = layRow (L[i]'(by rwa [lays_length] at h)) := by simp [lays]
theorem lays_append (a b : List (List Int)) : lays (a ++ b) = lays a ++ lays b := by simp [lays]
theorem lays_one (a : List Int) : lays [a] = [layRow a] := rfl
theorem lays_nil : lays [] = [] := rfl
theorem lays_take (n : Nat) (l : List (List Int)) : (lays l).take n = lays (l.take n) := by simp [lays, List.map_take]
theorem nlss_lays (L : List (List Int)) : nlss (lays L) = true := by
  induction L with
  | nil => rfl
  | cons r rs ih => simpa [lays, nlss, nls, nl, layRow, nlss_ints] using ih
theorem cell_lays (L : List (List Int)) : (lays L).flatten.all FV.cellV = true := by
  induction L with
  | nil => rfl
  | cons r rs ih => simp [lays, FV.cellV, layRow]
def _root_.Go.Gv.Pg.row (p : Pg) : List FV := [.list 4 (fns p.funcs), .list 2 (gbs p.globals), .list 1 (lays p.layouts), .int .i64 p.main]
theorem nat_inj' (m n : Nat) : ((m : Int) = (n : Int)) = (m = n) := by rw [Int.ofNat_inj]
theorem wl (n : Nat) (h : n ≤ 1000000000) : IntKind.wrap .i64 ((n : Int) - 1) = (n : Int) - 1 := by rw [IntKind.wrap_i64]; omega
theorem wli {i : Nat} {m : Nat} (h : i < m) (hm : m ≤ 1000000000) : IntKind.wrap .i64 ((i : Int) + 1) = ((i + 1 : Nat) : Int) := by rw [IntKind.wrap_i64]; omega
end Go.Gc
namespace Go.Gc
open Go Go.FM Go.Gv Go.Proofs
/-! ### readings of a program -/
theorem rgI : Rd Tryz.prog 3 1 (fun n : Int => [.int .i64 n]) (fun _ n => IntKind.i64.min ≤ n ∧ n ≤ IntKind.i64.max) := rd_int Tryz.underlying3 (by kernel_rfl)
theorem rgS : Rd Tryz.prog 9 1 (fun s : ByteArray => [.str s]) (fun N s => s.size ≤ maxLen ∧ s.size ≤ N) := rd_str Tryz.underlying9 (by kernel_rfl)
theorem rgIns : Rd Tryz.prog 51 5 Ins.row (fun _ _ => True) :=
  rd_struct Tryz.underlying51 (by kernel_rfl) (rdf_cons rfl rgI (rdf_cons rfl rgI (rdf_cons rfl rgI (rdf_cons rfl rgI (rdf_cons rfl rgI rdf_nil))))) (fun x => match x with | (x0, x1, x2, x3, x4, ()) => ⟨x0, x1, x2, x3, x4⟩) (by intro x; rfl) (fun _ _ _ => trivial) (by intro y; rfl)
theorem rgInsS : Rd Tryz.prog 47 1 (fun L : List Ins => [.list 5 (inss L)]) (fun N L => L.length ≤ N ∧ ∀ x ∈ L, True) := rd_slice Tryz.underlying47 (by kernel_rfl) (by decide) rgIns
theorem rgFn : Rd Tryz.prog 49 4 FnD.row (fun N f => f.code.length ≤ N) :=
  rd_struct Tryz.underlying49 (by kernel_rfl) (rdf_cons rfl rgS (rdf_cons rfl rgI (rdf_cons rfl rgI (rdf_cons rfl rgInsS rdf_nil)))) (fun x => match x with | (x0, x1, x2, x3, ()) => ⟨x0, x1, x2, x3⟩) (by intro x; rfl) (fun _ _ h => h.2.2.2.1.1) (by intro y; rfl)
theorem rgFns : Rd Tryz.prog 22 1 (fun L : List FnD => [.list 4 (fns L)]) (fun N L => L.length ≤ N ∧ ∀ x ∈ L, x.code.length ≤ N) := rd_slice Tryz.underlying22 (by kernel_rfl) (by decide) rgFn
theorem rgGb : Rd Tryz.prog 73 2 Gb.row (fun _ _ => True) :=
  rd_struct Tryz.underlying73 (by kernel_rfl) (rdf_cons rfl rgS (rdf_cons rfl rgI rdf_nil)) (fun x => match x with | (x0, x1, ()) => ⟨x0, x1⟩) (by intro x; rfl) (fun _ _ _ => trivial) (by intro y; rfl)
theorem rgGbs : Rd Tryz.prog 23 1 (fun L : List Gb => [.list 2 (gbs L)]) (fun N L => L.length ≤ N ∧ ∀ x ∈ L, True) := rd_slice Tryz.underlying23 (by kernel_rfl) (by decide) rgGb
theorem rgLay : Rd Tryz.prog 53 1 layRow (fun N L => L.length ≤ N ∧ ∀ x ∈ L, IntKind.i64.min ≤ x ∧ x ≤ IntKind.i64.max) := rd_slice Tryz.underlying53 (by kernel_rfl) (by decide) rgI
theorem rgLays : Rd Tryz.prog 24 1 (fun L : List (List Int) => [.list 1 (lays L)]) (fun N L => L.length ≤ N ∧ ∀ x ∈ L, x.length ≤ N ∧ ∀ y ∈ x, IntKind.i64.min ≤ y ∧ y ≤ IntKind.i64.max) := rd_slice Tryz.underlying24 (by kernel_rfl) (by decide) rgLay
structure PgB (N : Nat) (p : Pg) : Prop where
  hf : p.funcs.length ≤ N
  hg : p.globals.length ≤ N
  hl : p.layouts.length ≤ N
  hb : ∀ x ∈ p.layouts, x.length ≤ N
  hfc : ∀ x ∈ p.funcs, x.code.length ≤ N
theorem rgPg : Rd Tryz.prog 26 4 Pg.row (PgB) :=
  rd_struct Tryz.underlying26 (by kernel_rfl) (rdf_cons rfl rgFns (rdf_cons rfl rgGbs (rdf_cons rfl rgLays (rdf_cons rfl rgI rdf_nil)))) (fun x => match x with | (x0, x1, x2, x3, ()) => ⟨x0, x1, x2, x3⟩) (by intro x; rfl) (fun _ _ h => ⟨h.1.1, h.2.1.1, h.2.2.1.1, fun x hx => (h.2.2.1.2 x hx).1, h.1.2⟩) (by intro y; rfl)
/-! ### the statement's measure of arguments -/
mutual
theorem bulk_is {H : Type} : ∀ d : DataW H, bulk d = YtmhkendlllmodaaGreatDoor.Rows.uptoBulk d
  | .lit (.string _) => by simp [bulk, YtmhkendlllmodaaGreatDoor.Rows.uptoBulk]
  | .lit (.int ..) => by simp [bulk, YtmhkendlllmodaaGreatDoor.Rows.uptoBulk]
  | .lit (.bool _) => by simp [bulk, YtmhkendlllmodaaGreatDoor.Rows.uptoBulk]
  | .lit (.float ..) => by simp [bulk, YtmhkendlllmodaaGreatDoor.Rows.uptoBulk]
  | .lit .nil => by simp [bulk, YtmhkendlllmodaaGreatDoor.Rows.uptoBulk]
  | .nil => by simp [bulk, YtmhkendlllmodaaGreatDoor.Rows.uptoBulk]
  | .ptr d => by simp [bulk, YtmhkendlllmodaaGreatDoor.Rows.uptoBulk, bulk_is d]
  | .slice a b => by simp [bulk, YtmhkendlllmodaaGreatDoor.Rows.uptoBulk, bulkAll_is a, bulkAll_is b]
  | .agg a => by simp [bulk, YtmhkendlllmodaaGreatDoor.Rows.uptoBulk, bulkAll_is a]
  | .iface _ d => by simp [bulk, YtmhkendlllmodaaGreatDoor.Rows.uptoBulk, bulk_is d]
  | .map es => by simp [bulk, YtmhkendlllmodaaGreatDoor.Rows.uptoBulk, bulkEntries_is es]
  | .held _ => by simp [bulk, YtmhkendlllmodaaGreatDoor.Rows.uptoBulk]
theorem bulkAll_is {H : Type} : ∀ l : List (DataW H), bulkAll l = YtmhkendlllmodaaGreatDoor.Rows.uptoBulkAll l
  | [] => by simp [bulkAll, YtmhkendlllmodaaGreatDoor.Rows.uptoBulkAll]
  | d :: r => by simp [bulkAll, YtmhkendlllmodaaGreatDoor.Rows.uptoBulkAll, bulk_is d, bulkAll_is r]
theorem bulkEntries_is {H : Type} : ∀ l : List (Lit × DataW H), bulkEntries l = YtmhkendlllmodaaGreatDoor.Rows.uptoBulkEntries l
  | [] => by simp [bulkEntries, YtmhkendlllmodaaGreatDoor.Rows.uptoBulkEntries]
  | x :: r => by simp [bulkEntries, YtmhkendlllmodaaGreatDoor.Rows.uptoBulkEntries, bulkEntry_is x, bulkEntries_is r]
theorem bulkEntry_is {H : Type} : ∀ x : Lit × DataW H, bulkEntry x = YtmhkendlllmodaaGreatDoor.Rows.uptoBulkEntry x
  | (.string _, d) => by simp [bulkEntry, YtmhkendlllmodaaGreatDoor.Rows.uptoBulkEntry, bulk_is d]
  | (.int .., d) => by simp [bulkEntry, YtmhkendlllmodaaGreatDoor.Rows.uptoBulkEntry, bulk_is d]
  | (.bool _, d) => by simp [bulkEntry, YtmhkendlllmodaaGreatDoor.Rows.uptoBulkEntry, bulk_is d]
  | (.float .., d) => by simp [bulkEntry, YtmhkendlllmodaaGreatDoor.Rows.uptoBulkEntry, bulk_is d]
  | (.nil, d) => by simp [bulkEntry, YtmhkendlllmodaaGreatDoor.Rows.uptoBulkEntry, bulk_is d]
end
theorem PgB.up {p : Pg} {M N : Nat} (h : PgB M p) (hm : M ≤ N) : PgB N p := ⟨by have := h.hf; omega, by have := h.hg; omega, by have := h.hl; omega, fun x hx => by have := h.hb x hx; omega, fun x hx => by have := h.hfc x hx; omega⟩
end Go.Gc
namespace Go.Gc
open Go Go.RowKit Go.Proofs Go.Shelf Go.Sort
set_option maxHeartbeats 4000000
set_option maxRecDepth 100000
/-! ### code.unique: walked with the library's contracts -/
abbrev srt (ss : List (List UInt8)) : List (List UInt8) := ss.mergeSort fun x y => decide (x ≤ y)
def toB (l : List (List UInt8)) : List ByteArray := l.map fun x => ⟨x.toArray⟩
theorem srt_len (ss : List (List UInt8)) : (srt ss).length = ss.length := List.length_mergeSort ss
theorem toB_at {w : World} {g : Nat} {l : List (List UInt8)} (h : Holds encStr w g 0 l.toArray) : ∀ j, j < (toB l).length → w.cell? ⟨g, 0 + j, none⟩ = some (.string ((toB l).getD j ByteArray.empty)) := by
  intro j hj
  have hj' : j < l.length := by simpa [toB] using hj
  rw [(h j (by simpa using hj')).1]
  have : l.toArray[j]! = l[j] := by simp [getElem!_pos, hj']
  rw [this]
  simp [toB, List.getD_eq_getElem?_getD, List.getElem?_eq_getElem hj', encStr]
theorem contains_toB (l : List (List UInt8)) (n : Nat) (hn : l.length = n) : Lib.containsS ((toB l).take n) ⟨#[]⟩ = decide ([] ∈ l) := by
  rw [Bool.eq_iff_iff, Lib.containsS_iff, List.take_of_length_le (by simp [toB, hn])]
  simp only [toB, List.mem_map, decide_eq_true_eq]
  constructor
  · rintro ⟨x, hx, h⟩
    have : x = [] := by simpa using congrArg (fun b : ByteArray => b.data.toList) h
    rwa [this] at hx
  · intro h; exact ⟨[], h, rfl⟩
theorem uniq_no {ss : List (List UInt8)} (h : [] ∈ srt ss) : Gv.uniq ss = false := by
  have := (List.mergeSort_perm ss (fun x y => decide (x ≤ y))).mem_iff.mp h
  simp [Gv.uniq, this]
theorem uniq_len {ss : List (List UInt8)} (h : ¬ [] ∈ srt ss) {n : Nat} (hn : ss.length = n) : decide (((Lib.compact (srt ss)).length : Int) = (n : Int)) = Gv.uniq ss := by
  have h' : ¬ [] ∈ ss := fun e => h ((List.mergeSort_perm ss (fun x y => decide (x ≤ y))).mem_iff.mpr e)
  rw [← Gv.uniq_eq]
  simp [h', hn, Int.ofNat_inj]
/-- what is known after the clone -/
def UX (w w1 : World) (g cap n : Nat) (ss : List (List UInt8)) : Prop :=
  Go.RowKit.Below w.heap.size w w1 ∧ w.heap.size ≤ g ∧ g < w1.heap.size ∧ n ≤ cap ∧ ss.length = n ∧ Holds encStr w1 g 0 ss.toArray
theorem unique_tail (A : Option Addr) (n c : Nat) (ss : List (List UInt8)) (w : World) (hn : n ≤ 4611686018427387903)
    (hclone : Calls Tryz.prog 62 #[.slice A n c] w fun e w' => ∃ v', e = .returned v' ∧ w'.ownsRow w.heap.size 9 1 v' n (ss.map encStr) ∧ v' ≠ .slice none 0 0 ∧ Go.RowKit.Below w.heap.size w w') :
    Calls Tryz.prog 36 #[.slice A n c] w fun e w' => e = .returned (.bool (Gv.uniq ss)) ∧ Go.RowKit.Below w.heap.size w w' := by
  by_cases hm : [] ∈ srt ss
  · have hu := uniq_no hm
    go_enter Tryz.func36, Tryz.ntmps36
    go_wp2_with (first
      | (go_at_call 62; refine hclone.mono ?_; rintro e w1 ⟨v1, rfl, hown, hnn, hbel⟩
         obtain ⟨g, cap, rfl, hbg, hgl, hncap, hcm, hlen, hH⟩ := Lib.holds_of_ownsRow hown hnn
         have hsort : Calls Tryz.prog 63 _ _ _ := Any.slices_Sort_string uL2 g 0 cap ss w1 hH hgl (by omega)
         rw [hlen] at hsort
         have X : Aside (UX w w1 g cap n ss) := ⟨hbel, hbg, hgl, hncap, hlen, hH⟩
         clear hown hbel hH hnn)
      | (go_at_call 63; refine hsort.mono ?_; rintro e w2 ⟨rfl, nn, os, rfl⟩
         have hl2 : (srt ss).length = n := by rw [srt_len]; exact X.out.2.2.2.2.1
         have hH2 : Holds encStr (grow (putRow encStr (Sort.ahead w1 nn) g 0 (srt ss).toArray) os) g 0 (srt ss).toArray :=
           holds_grow encStr _ os g 0 _ (by simpa [putRow, mapBlock, Sort.ahead] using X.out.2.2.1) (holds_putRow encStr _ g 0 _ _ (holds_ahead encStr w1 nn g 0 _ X.out.2.2.2.2.2) (by simp))
         have hcont : Calls Tryz.prog 64 _ _ _ := Any.slices_Contains_string uL4 g 0 n cap (toB (srt ss)) ⟨#[]⟩ _ (by simp [toB, hl2]) (by omega) (toB_at hH2)
         rw [contains_toB _ _ hl2, decide_eq_true hm] at hcont
         clear hH2 hsort)
      | (go_at_call 64; refine hcont.mono ?_; rintro e w3 ⟨rfl, rfl⟩))
    go_ret
    exact ⟨by rw [hu]; rfl, X.out.1.grown (grownBy_sorted _) X.out.1.size (fun j hj => by cases hj; exact X.out.2.1)⟩
  · have hu := fun (h : ss.length = n) => uniq_len hm h
    go_enter Tryz.func36, Tryz.ntmps36
    go_wp2_with (first
      | (go_at_call 62; refine hclone.mono ?_; rintro e w1 ⟨v1, rfl, hown, hnn, hbel⟩
         obtain ⟨g, cap, rfl, hbg, hgl, hncap, hcm, hlen, hH⟩ := Lib.holds_of_ownsRow hown hnn
         have hsort : Calls Tryz.prog 63 _ _ _ := Any.slices_Sort_string uL2 g 0 cap ss w1 hH hgl (by omega)
         rw [hlen] at hsort
         have X : Aside (UX w w1 g cap n ss) := ⟨hbel, hbg, hgl, hncap, hlen, hH⟩
         clear hown hbel hH hnn)
      | (go_at_call 63; refine hsort.mono ?_; rintro e w2 ⟨rfl, nn, os, rfl⟩
         have hl2 : (srt ss).length = n := by rw [srt_len]; exact X.out.2.2.2.2.1
         have hH2 : Holds encStr (grow (putRow encStr (Sort.ahead w1 nn) g 0 (srt ss).toArray) os) g 0 (srt ss).toArray :=
           holds_grow encStr _ os g 0 _ (by simpa [putRow, mapBlock, Sort.ahead] using X.out.2.2.1) (holds_putRow encStr _ g 0 _ _ (holds_ahead encStr w1 nn g 0 _ X.out.2.2.2.2.2) (by simp))
         have hcont : Calls Tryz.prog 64 _ _ _ := Any.slices_Contains_string uL4 g 0 n cap (toB (srt ss)) ⟨#[]⟩ _ (by simp [toB, hl2]) (by omega) (toB_at hH2)
         rw [contains_toB _ _ hl2, decide_eq_false hm] at hcont
         have hcomp : Calls Tryz.prog 65 _ _ _ := Any.slices_Compact_string uL3 g 0 cap (srt ss) _ hH2 (by omega) (by rw [hl2]; exact X.out.2.2.2.1)
         rw [hl2] at hcomp
         clear hH2 hsort)
      | (go_at_call 64; refine hcont.mono ?_; rintro e w3 ⟨rfl, rfl⟩)
      | (go_at_call 65; refine hcomp.mono ?_; rintro e w3 ⟨rfl, q, rfl⟩))
    go_ret
    exact ⟨by rw [← hu X.out.2.2.2.2.1]; rfl, Lib.below_putRow (X.out.1.grown (grownBy_sorted _) X.out.1.size (fun j hj => by cases hj; exact X.out.2.1)) X.out.2.1⟩
theorem unique_nil (c : Nat) (w : World) : Calls Tryz.prog 36 #[.slice none 0 c] w fun e w' => e = .returned (.bool true) ∧ w' = w := by
  have hclone : Calls Tryz.prog 62 #[.slice none 0 c] w _ := Any.slices_Clone_string_nil uL1 0 c w
  have hsort : Calls Tryz.prog 63 #[.slice none 0 0] w _ := calls_of_every_depth fun D => AnyS.slices_Sort_string_none_in uL2 D none 0 w
  have hcont : Calls Tryz.prog 64 #[.slice none 0 0, .string ⟨#[]⟩] w _ := Any.slices_Contains_string_empty uL4 none 0 ⟨#[]⟩ w
  have hcomp : Calls Tryz.prog 65 #[.slice none 0 0] w _ := Any.slices_Compact_string_empty uL3 none 0 w
  go_enter Tryz.func36, Tryz.ntmps36
  go_wp2_with (first
    | (go_at_call 62; refine hclone.mono ?_; rintro e w' ⟨rfl, rfl⟩)
    | (go_at_call 63; refine hsort.mono ?_; rintro e w' ⟨rfl, rfl⟩)
    | (go_at_call 64; refine hcont.mono ?_; rintro e w' ⟨rfl, rfl⟩)
    | (go_at_call 65; refine hcomp.mono ?_; rintro e w' ⟨rfl, rfl⟩))
  go_ret
  exact ⟨rfl, rfl⟩
end Go.Gc
