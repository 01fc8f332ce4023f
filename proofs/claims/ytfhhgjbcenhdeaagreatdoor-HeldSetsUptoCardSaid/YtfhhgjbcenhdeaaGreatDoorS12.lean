/- Part. -/
import Derived.Test.YtfhhgjbcenhdeaaGreatDoorS11
set_option linter.all false
set_option maxRecDepth 100000
set_option maxHeartbeats 0
namespace Go.Je
open Go Go.FM Go.Gv Go.Proofs
theorem c2w (l : List Int) (n : Int) (hl : l.length <= 999999990) : Pq 49 [.list 1 (ints l), .int .i64 n] (.list 1 (ints (a0r l n))) := by
 refine yq Tryz.f49 [.tmp 4] 6 45 [] 0 ?_
 repeat' first
  | (refine yi ?_; refine a0e (σ := {i : Nat // i <= l.length /\ ltTo l n i}) (fun y => [(5, .int .i64 (y.1 : Int))]) [] (fun y => []) [] (fun y => []) (fun y => noH) (fun y => l.length - y.1) ⟨0, by simp, g1v l n⟩ yt ?_; rintro ⟨i, hi, hk⟩; simp only [lpS, LPXB]; (try dsimp only at hi hk); rcases a0c hi with hlt | ⟨hlt, rfl⟩; rcases e7r (l[i]'hlt) n with ⟨o1, o2⟩ | ⟨o1, o2⟩ | ⟨o1, o2⟩; have wi := wli hlt ya; rotate_left; have hw := f1q hlt hk o2; have s1 := szn (n := i) (k := 8) ya yb; have s2 := szn (n := i + 1) (k := 8) ya yb; have s3 := szn (n := l.length + 1) (k := 8) ya yb; have z1 : i <= 4611686018427387904 := ya; have z2 : i + 1 <= 4611686018427387904 := ya; have z3 : l.length + 1 <= 4611686018427387904 := ya; have z4 : i <= l.length := hi; have z5 := d1o z4; have z6 := c4w z4; have z7 := c7y l z4; have z8 := c7x l z4; rotate_left; have hw := e2w hlt hk o1 o2; have s1 := szn (n := i) (k := 8) ya yb; have s2 := szn (n := i + 1) (k := 8) ya yb; have s3 := szn (n := l.length + 1) (k := 8) ya yb; have z1 : i <= 4611686018427387904 := ya; have z2 : i + 1 <= 4611686018427387904 := ya; have z3 : l.length + 1 <= 4611686018427387904 := ya; have z4 : i <= l.length := hi; have z5 := d1o z4; have z6 := c4w z4; have z7 := c7y l z4; have z8 := c7x l z4; rotate_left; have hw := e2x hk; have s1 := szn (n := l.length) (k := 8) ya yb; have s2 := szn (n := l.length + 1) (k := 8) ya yb; have z1 : l.length <= 4611686018427387904 := ya; have z3 : l.length + 1 <= 4611686018427387904 := ya; rotate_left)
  | (refine ye ?_; refine a0b (⟨i + 1, by omega, g1u hk hlt o1⟩) yt yf)
  | (with_reducible refine b9t (id := 6) [[0, 37], [0, 40]] 12 a0d yc fun K hK => ?_)
  | (refine d1l (j := 6) (e := 3) (x := .tmp 37) (y := .tmp 39) (t := 36) (tx := 36) (Aj := upd noH [0, 39] (.cells 3 1 [[.int .i64 n]])) [0, 37] [0, 39] 4 (.cells 3 1 (ints (l.take i))) (.cells 3 1 [[.int .i64 n]]) 1 (ints (l.take i) ++ [[.int .i64 n]]) (.sl [0, 40] 1 0 (i + 1)) yb yc ?_ z1f rfl (A5l rfl) ?_ yc ?_ ?_ ?_ yb yc ?_ ?_ ?_ ?_; (focus (exact rfl)); (focus (first | rfl | simp)); (iterate 5 (focus (first | rfl | simp [*, SIMB, rmvs, rmv, a2r]))); (focus (simp [*, -List.all_flatten, -List.all_eq_true, yl, rmvs, rmv, a2r, a1d, a2u, a5k, FV.cellV, a0w, a9q, a9d, A1c, A2d, a1j, A0c, a4p, b1z, a1z])))
  | (refine d1l (j := 6) (e := 3) (x := .tmp 37) (y := .tmp 39) (t := 36) (tx := 36) (Aj := upd noH [0, 39] (.cells 3 1 [[.int .i64 n]])) [0, 37] [0, 39] 4 (.cells 3 1 (ints (l))) (.cells 3 1 [[.int .i64 n]]) 1 (ints (l) ++ [[.int .i64 n]]) (.sl [0, 40] 1 0 (l.length + 1)) yb yc ?_ z1f rfl (A5l rfl) ?_ yc ?_ ?_ ?_ yb yc ?_ ?_ ?_ ?_; (focus (exact rfl)); (focus (first | rfl | simp)); (iterate 5 (focus (first | rfl | simp [*, SIMB, rmvs, rmv, a2r]))); (focus (simp [*, -List.all_flatten, -List.all_eq_true, yl, rmvs, rmv, a2r, a1d, a2u, a5k, FV.cellV, a0w, a9q, a9d, A1c, A2d, a1j, A0c, a4p, b1z, a1z])))
  | (refine d1k (e := 3) (x := .tmp 40) (y := .tmp 43) (t := 36) (tx := 36) [0, 40] 7 (.cells 3 1 (ints (l.take i) ++ [[.int .i64 n]])) 1 (ints (l.take i) ++ ([[.int .i64 n]] ++ ints (l.drop i))) (.sl [0, 44] 1 0 (i + 1 + (l.length - i))) yb yc ?_ z1f rfl (A5l rfl) ?_ ?_ yb yc ?_ ?_ ?_ ?_; (focus (exact rfl)); (iterate 4 (focus (first | rfl | simp [*, SIMB, rmvs, rmv, a2r]))); (focus (simp [*, -List.all_flatten, -List.all_eq_true, yl, rmvs, rmv, a2r, a1d, a2u, a5k, FV.cellV, a0w, a9q, a9d, A1c, A2d, a1j, A0c, a4p, b1z, a1z])))
  | (refine d1k (e := 3) (x := .tmp 40) (y := .tmp 43) (t := 36) (tx := 36) [0, 40] 7 (.cells 3 1 (ints l ++ [[.int .i64 n]])) 1 (ints l ++ [[.int .i64 n]]) (.sl [0, 44] 1 0 (l.length + 1)) yb yc ?_ z1f rfl (A5l rfl) ?_ ?_ yb yc ?_ ?_ ?_ ?_; (focus (exact rfl)); (iterate 4 (focus (first | rfl | simp [*, SIMB, rmvs, rmv, a2r]))); (focus (simp [*, -List.all_flatten, -List.all_eq_true, yl, rmvs, rmv, a2r, a1d, a2u, a5k, FV.cellV, a0w, a9q, a9d, A1c, A2d, a1j, A0c, a4p, b1z, a1z])))
  | refine dz3 ?_
  | (refine stpK ?_; intro K hK)
  | (refine stpC ?_; intro T E hT hE)
  | (refine stp2 ?_ ?_ <;> intro h)
  | (refine yg ?_; clear hK K)
  | (refine yh ?_; clear hT hE T E)
  | simp [*, -List.all_flatten, -List.all_eq_true, yl, rmvs, rmv, a2r, a1d, a2u, a5k, FV.cellV, a0w, a9q, a9d, A1c, A2d, a1j, A0c, a4p, b1z, a1z]
 all_goals first
  | (simp [hw]; done)
end Go.Je
