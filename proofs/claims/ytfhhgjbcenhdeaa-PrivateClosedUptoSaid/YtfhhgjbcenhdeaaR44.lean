/- Parts of the proof. -/
import Derived.Test.YtfhhgjbcenhdeaaR43
set_option linter.unusedSimpArgs false
set_option linter.unusedVariables false
namespace Go.He
open Go Go.FM Go.Gv Go.Proofs
set_option maxRecDepth 100000
set_option maxHeartbeats 40000000
theorem e4k (n : Nat) {P : Program} {res : List ResultVar} {r y : FV} {s : Fs} {l : List FV} (hr : resL P s res = some l) (hy : frz s.H n (a2u l) = some y) (ha : asR y r) : PEnd P res r .ret s := ⟨.inr rfl, s, Wk.refl s, l, hr, n, y, hy, ha⟩
theorem c8r  : PC Try.prog Gl 17 [] (.agg [.list 4 [[.str ⟨⟨[109, 97, 105, 110]⟩⟩, .int .i64 0, .int .i64 2, .list 5 [[.int .i64 21, .int .i64 0, .int .i64 0, .int .i64 0, .int .i64 0], [.int .i64 21, .int .i64 1, .int .i64 0, .int .i64 0, .int .i64 0], [.int .i64 31, .int .i64 0, .int .i64 1, .int .i64 0, .int .i64 0], [.int .i64 30, .int .i64 (-1), .int .i64 0, .int .i64 0, .int .i64 0]]], [.str ⟨⟨[102]⟩⟩, .int .i64 1, .int .i64 1, .list 5 [[.int .i64 30, .int .i64 (-1), .int .i64 0, .int .i64 0, .int .i64 0]]]], .list 2 [], .list 1 [[.list 1 [[.int .i64 0]]]], .int .i64 0]) := by
 refine a3w (res := [.cell 0 26]) 2 16 [] (fun d ix => 0 :: d :: ix) (fn := Try.f17) (by kernel_rfl) (by rfl) (by rfl) (by rfl) (by simp) (by decide) ?_
 repeat' first
  | (refine e4k 80 rfl rfl ?_; exact ⟨_, rfl, _, _, rfl, rfl, _, _, rfl, .inr ⟨2, rfl⟩, _, _, rfl, rfl, _, _, rfl, rfl, rfl⟩)
  | with_reducible refine stp ?_
  | (with_reducible refine stpK ?_; intro K hK)
  | (with_reducible refine stpC ?_; intro T E hT hE)
  | (with_reducible refine stp2 ?_ ?_ <;> intro h)
  | with_reducible first | refine a0q rfl ?_ | refine a0t rfl (Nat.le_of_ble_eq_true rfl) a0s ?_ | refine a0t rfl (Nat.le_of_ble_eq_true rfl) (a0r (by simp [HPXB, ext, upd, *])) ?_ | refine a1v (by decide) (by kernel_rfl) ?_ | refine a0x (by decide) ?_
  | (with_reducible refine Kont.go hK ?_; clear hK K)
  | ((with_reducible first | refine KT.go hT ?_ | refine KT.go hE ?_); clear hT hE T E)
  | simp [*, -List.all_flatten, -List.all_eq_true, DEFB, asR, asRs, frz, frzs, frzR, frzN]
end Go.He
