/- Parts of the proof. -/
import Derived.Test.YtfhhgjbcenhdeaaR44
set_option linter.unusedSimpArgs false
set_option linter.unusedVariables false
namespace Go.He
open Go Go.FM Go.Gv Go.Proofs
set_option maxRecDepth 100000
set_option maxHeartbeats 40000000
theorem d0k : PC Try.prog Gl 17 [] (.agg [.list 4 (fns p1.funcs), .list 2 (gbs p1.globals), .list 1 (lays p1.layouts), .int .i64 p1.main]) := c8r
theorem lfp1 : lfpP p1 = x1 := d2l c5b c6q
theorem e9a : a3e p1 x1 = true := by
 simp [a3e, c5b, b7q c4h, c6q.conds]
theorem pgb1 : PgB p1 := ⟨by decide, by decide, by decide, fun x hx => by simp [p1] at hx; subst hx; decide, fun x hx => by simp [p1] at hx; rcases hx with rfl | rfl <;> decide⟩
theorem ptb1 : PtB 2000000 x1 := ⟨by decide, by decide, by decide, fun a ha => by simp [x1] at ha; rcases ha with rfl | rfl <;> decide, fun a ha s hs => by simp [x1] at ha; rcases ha with rfl | rfl <;> (simp at hs; rcases hs with rfl | rfl <;> decide), fun s hs => by simp [x1] at hs; subst hs; decide⟩
theorem b4d  : PC Try.prog Gl 6 [] (.bool true) := by
 have hA : PC Try.prog Gl 15 [.agg [.list 4 (fns p1.funcs), .list 2 (gbs p1.globals), .list 1 (lays p1.layouts), .int .i64 p1.main]] (.agg [.list 2 (sits x1.sites), .list 1 (lls x1.regs), .list 1 (lays x1.cells)]) := by
  have h := b4e pgb1
  rw [lfp1] at h
  exact h
 have hS : PC Try.prog Gl 11 [.agg [.list 4 (fns p1.funcs), .list 2 (gbs p1.globals), .list 1 (lays p1.layouts), .int .i64 p1.main], .agg [.list 2 (sits x1.sites), .list 1 (lls x1.regs), .list 1 (lays x1.cells)]] (.list 1 [[.bool true], [.bool true], [.bool false]]) := by
  have h := b3k pgb1 ptb1
  rw [shP, if_pos e9a, e9q] at h
  exact h
 have hE : PC Try.prog Gl 17 [] (.agg [.list 4 (fns p1.funcs), .list 2 (gbs p1.globals), .list 1 (lays p1.layouts), .int .i64 p1.main]) := d0k
 refine a3w (res := [.tmp 0]) 3 27 [] (fun d ix => 0 :: d :: ix) (fn := Try.f6) (by kernel_rfl) (by rfl) (by rfl) (by rfl) (by simp) (by decide) ?_
 repeat' first
  | with_reducible first | refine a0p (id := 2) 4 a0k (by kernel_rfl) fun K hK => ?_ | refine stp ?_
  | (with_reducible refine stpK ?_; intro K hK)
  | (with_reducible refine stpC ?_; intro T E hT hE)
  | (with_reducible refine stp2 ?_ ?_ <;> intro h)
  | with_reducible first | refine a0q rfl ?_ | refine a1n hE (by simp [nls, nl, *, NLXB]) ?_ | refine hpc hE (by simp [nls, nl, *, NLXB]) ?_ | refine a1n hA (by simp [nls, nl, *, NLXB]) ?_ | refine hpc hA (by simp [nls, nl, *, NLXB]) ?_ | refine a1n hS (by simp [nls, nl, *, NLXB]) ?_ | refine hpc hS (by simp [nls, nl, *, NLXB]) ?_ | refine a0t rfl (Nat.le_of_ble_eq_true rfl) a0s ?_ | refine a0t rfl (Nat.le_of_ble_eq_true rfl) (a0r (by simp [HPXB, ext, upd, *])) ?_ | refine a1v (by decide) (by kernel_rfl) ?_ | refine a0x (by decide) ?_
  | (with_reducible refine Kont.go hK ?_; clear hK K)
  | ((with_reducible first | refine KT.go hT ?_ | refine KT.go hE ?_); clear hT hE T E)
  | simp [*, -List.all_flatten, -List.all_eq_true, DEFB, asR, frz, frzs, frzR, frzN]
end Go.He
