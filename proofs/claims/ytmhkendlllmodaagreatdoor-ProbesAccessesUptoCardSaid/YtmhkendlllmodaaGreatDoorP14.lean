/- Texts of a proof by an abstract machine over the model. -/
import Derived.Test.YtmhkendlllmodaaGreatDoorP13
set_option linter.unusedSimpArgs false
set_option linter.unusedVariables false
namespace Go.Gc
open Go Go.FM Go.Gv Go.Proofs
set_option maxRecDepth 100000
set_option maxHeartbeats 4000000
theorem tri_in {n : Int} (h : 1 ≤ n ∧ n ≤ 52) : (fIdx Tryz.prog 9 (.str (rlI n)) (.int .i64 0) = some (.int .u8 (rI n).1) ∧ fIdx Tryz.prog 9 (.str (rlI n)) (.int .i64 1) = some (.int .u8 (rI n).2.1) ∧ fIdx Tryz.prog 9 (.str (rlI n)) (.int .i64 2) = some (.int .u8 (rI n).2.2)) ∧
    (fIdx Tryz.prog 9 (.str (rlR n)) (.int .i64 0) = some (.int .u8 (rR n).1) ∧ fIdx Tryz.prog 9 (.str (rlR n)) (.int .i64 1) = some (.int .u8 (rR n).2.1) ∧ fIdx Tryz.prog 9 (.str (rlR n)) (.int .i64 2) = some (.int .u8 (rR n).2.2)) ∧ ((rlR n).data.toList == []) = false := by
  rcases Gv.op_cases h with rfl | rfl | rfl | rfl | rfl | rfl | rfl | rfl | rfl | rfl | rfl | rfl | rfl | rfl | rfl | rfl | rfl | rfl | rfl | rfl | rfl | rfl | rfl | rfl | rfl | rfl | rfl | rfl | rfl | rfl | rfl | rfl | rfl | rfl | rfl | rfl | rfl | rfl | rfl | rfl | rfl | rfl | rfl | rfl | rfl | rfl | rfl | rfl | rfl | rfl | rfl | rfl
  all_goals (simp only [fIdx, f_strT_9, rlI, rlR, rI, rR]; refine ⟨⟨by rfl, by rfl, by rfl⟩, ⟨by rfl, by rfl, by rfl⟩, by rfl⟩)
theorem arr_0 (a b c : Int) : fIdx Tryz.prog 150 (.agg [.int .i64 a, .int .i64 b, .int .i64 c]) (.int .i64 0) = some (.int .i64 a) := by simp [fIdx, fPart, f_arE_150, f_szT_3, f_ldT_3]
theorem arr_1 (a b c : Int) : fIdx Tryz.prog 150 (.agg [.int .i64 a, .int .i64 b, .int .i64 c]) (.int .i64 1) = some (.int .i64 b) := by simp [fIdx, fPart, f_arE_150, f_szT_3, f_ldT_3]
theorem arr_2 (a b c : Int) : fIdx Tryz.prog 150 (.agg [.int .i64 a, .int .i64 b, .int .i64 c]) (.int .i64 2) = some (.int .i64 c) := by simp [fIdx, fPart, f_arE_150, f_szT_3, f_ldT_3]
theorem upto3 {i : Nat} (h : i ≤ 3) : i = 0 ∨ i = 1 ∨ i = 2 ∨ i = 3 := by omega
end Go.Gc
