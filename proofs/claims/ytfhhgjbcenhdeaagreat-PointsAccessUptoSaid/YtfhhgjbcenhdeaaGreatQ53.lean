/- Parts of the proof. -/
import Derived.Test.YtfhhgjbcenhdeaaGreatQ50
import Derived.Test.YtfhhgjbcenhdeaaGreatQ49
set_option linter.unusedSimpArgs false
set_option linter.unusedVariables false
namespace Go.Ge
open Go Go.FM Go.Gv Go.Proofs
set_option maxRecDepth 100000
set_option maxHeartbeats 40000000
theorem b8l {p : Pg} (hb : PgB p) {x : Pts} (hx : PtB 2000000 x) (a b : Int) : PC Tryz.prog Gl 5 [.agg [.list 4 (fns p.funcs), .list 2 (gbs p.globals), .list 1 (lays p.layouts), .int .i64 p.main], .agg [.list 2 (sits x.sites), .list 1 (lls x.regs), .list 1 (lays x.cells)], .agg [.int .i64 a, .int .i64 b]] (.bool true) := by
 have hg := b9q p hb.f hb.c
 have hl := b9p hx
 have hc := d1i hx
 have ha := c6c hb hx a b
 have hr := d1g hb hx a b
 have hi := c2i (accP p x (a, b)) (accP p x (a, b)) (Nat.le_trans (c1x p x (a, b)) (by decide))
 rw [decide_eq_true rfl] at hi
 have hs := c2h (y := x) hx
 rw [b3p rfl] at hs
 generalize accP p x (a, b) = l at ha hr hi
 cases g1 : b9a p
 all_goals rw [g1] at hg
 all_goals cases g2 : b0b x
 all_goals rw [g2] at hl
 all_goals
  refine a3d (res := [.tmp 6]) 8 32 [] (fun d ix => 0 :: d :: ix) (fn := Tryz.f5) (by kernel_rfl) (by rfl) (by rfl) (by rfl) (by simp) (by decide) ?_
  repeat' first
   | with_reducible first | refine a0u (id := 6) 14 a0m (by kernel_rfl) fun K hK => ?_ | refine stp ?_
   | (with_reducible refine stpK ?_; intro K hK)
   | (with_reducible refine stpC ?_; intro T E hT hE)
   | (with_reducible refine stp2 ?_ ?_ <;> intro h)
   | with_reducible first | refine a0p rfl ?_ | refine a1h b1g (by simp [nls, nl, *, NLXB]) ?_ | refine hpc b1g (by simp [nls, nl, *, NLXB]) ?_ | refine a1h hg (by simp [nls, nl, *, NLXB]) ?_ | refine hpc hg (by simp [nls, nl, *, NLXB]) ?_ | refine a1h hl (by simp [nls, nl, *, NLXB]) ?_ | refine hpc hl (by simp [nls, nl, *, NLXB]) ?_ | refine a1h hc (by simp [nls, nl, *, NLXB]) ?_ | refine hpc hc (by simp [nls, nl, *, NLXB]) ?_ | refine a1h ha (by simp [nls, nl, *, NLXB]) ?_ | refine hpc ha (by simp [nls, nl, *, NLXB]) ?_ | refine a1h hr (by simp [nls, nl, *, NLXB]) ?_ | refine hpc hr (by simp [nls, nl, *, NLXB]) ?_ | refine a1h hi (by simp [nls, nl, *, NLXB]) ?_ | refine hpc hi (by simp [nls, nl, *, NLXB]) ?_ | refine a1h hs (by simp [nls, nl, *, NLXB]) ?_ | refine hpc hs (by simp [nls, nl, *, NLXB]) ?_ | refine a1r rfl (Nat.le_of_ble_eq_true rfl) a0r ?_ | refine a1r rfl (Nat.le_of_ble_eq_true rfl) (a0q (by simp [HPXB, ext, upd, *])) ?_ | refine a1s (by decide) (by kernel_rfl) ?_ | refine a0x (by decide) ?_
   | (with_reducible refine Kont.go hK ?_; clear hK K)
   | ((with_reducible first | refine KT.go hT ?_ | refine KT.go hE ?_); clear hT hE T E)
   | simp [*, -List.all_flatten, -List.all_eq_true, DEFB, asR]
end Go.Ge
