/- Parts of the proof. -/
import Derived.Test.YtfhhgjbcenhdeaaGreatQ50
import Derived.Test.YtfhhgjbcenhdeaaGreatQ16
set_option linter.unusedSimpArgs false
set_option linter.unusedVariables false
namespace Go.Ge
open Go Go.FM Go.Gv Go.Proofs
set_option maxRecDepth 100000
set_option maxHeartbeats 40000000
theorem b9u {p : Pg} (hb : PgB p) : PC Tryz.prog Gl 3 [.agg [.list 4 (fns p.funcs), .list 2 (gbs p.globals), .list 1 (lays p.layouts), .int .i64 p.main]] (.bool true) := by
 have hg := b9q p hb.f hb.c
 have hc := c10 p hb.f hb.g hb.l hb.ll hb.c
 have ha := b6t hb
 have hr := c9j hb
 have hs := c2h (y := lfpP p) (d3j p)
 rw [b3p rfl] at hs
 generalize lfpP p = l at *
 cases g1 : b9a p
 all_goals rw [g1] at hg
 all_goals
  refine a3d (res := [.tmp 2]) 3 15 [] (fun d ix => 0 :: d :: ix) (fn := Tryz.f3) (by kernel_rfl) (by rfl) (by rfl) (by rfl) (by simp) (by decide) ?_
  repeat' first
   | with_reducible first | refine a0u (id := 3) 10 a0m (by kernel_rfl) fun K hK => ?_ | refine stp ?_
   | (with_reducible refine stpK ?_; intro K hK)
   | (with_reducible refine stpC ?_; intro T E hT hE)
   | (with_reducible refine stp2 ?_ ?_ <;> intro h)
   | with_reducible first | refine a0p rfl ?_ | refine a1h b1g (by simp [nls, nl, *, NLXB]) ?_ | refine hpc b1g (by simp [nls, nl, *, NLXB]) ?_ | refine a1h hg (by simp [nls, nl, *, NLXB]) ?_ | refine hpc hg (by simp [nls, nl, *, NLXB]) ?_ | refine a1h hc (by simp [nls, nl, *, NLXB]) ?_ | refine hpc hc (by simp [nls, nl, *, NLXB]) ?_ | refine a1h ha (by simp [nls, nl, *, NLXB]) ?_ | refine hpc ha (by simp [nls, nl, *, NLXB]) ?_ | refine a1h hr (by simp [nls, nl, *, NLXB]) ?_ | refine hpc hr (by simp [nls, nl, *, NLXB]) ?_ | refine a1h hs (by simp [nls, nl, *, NLXB]) ?_ | refine hpc hs (by simp [nls, nl, *, NLXB]) ?_ | refine a1r rfl (Nat.le_of_ble_eq_true rfl) a0r ?_ | refine a1r rfl (Nat.le_of_ble_eq_true rfl) (a0q (by simp [HPXB, ext, upd, *])) ?_ | refine a1s (by decide) (by kernel_rfl) ?_ | refine a0x (by decide) ?_
   | (with_reducible refine Kont.go hK ?_; clear hK K)
   | ((with_reducible first | refine KT.go hT ?_ | refine KT.go hE ?_); clear hT hE T E)
   | simp [*, -List.all_flatten, -List.all_eq_true, DEFB, asR]
end Go.Ge
