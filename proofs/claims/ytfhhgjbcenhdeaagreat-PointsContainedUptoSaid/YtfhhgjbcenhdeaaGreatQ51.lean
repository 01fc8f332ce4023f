/- Parts of the proof. -/
import Derived.Test.YtfhhgjbcenhdeaaGreatQ50
set_option linter.unusedSimpArgs false
set_option linter.unusedVariables false
namespace Go.Ge
open Go Go.FM Go.Gv Go.Proofs
set_option maxRecDepth 100000
set_option maxHeartbeats 40000000
theorem b4h {p : Pg} (hb : PgB p) {x : Pts} (hx : PtB 2000000 x) : PC Tryz.prog Gl 6 [.agg [.list 4 (fns p.funcs), .list 2 (gbs p.globals), .list 1 (lays p.layouts), .int .i64 p.main], .agg [.list 2 (sits x.sites), .list 1 (lls x.regs), .list 1 (lays x.cells)]] (.bool true) := by
 have hg := b9q p hb.f hb.c
 have hl := b9p hx
 have hv : PC Tryz.prog Gl 20 [.agg [.list 4 (fns p.funcs), .list 2 (gbs p.globals), .list 1 (lays p.layouts), .int .i64 p.main]] (.bool (a2v p)) := c21 p hb.f hb.g hb.l hb.ll hb.c
 have ha := b6t hb
 have hl2 := b9p (d3j p)
 have hr := a4l hb (d3j p)
 have hs := a5d hb hx
 have hk0 : a2y p x = true -> PC Tryz.prog Gl 21 [.agg [.list 2 (sits x.sites), .list 1 (lls x.regs), .list 1 (lays x.cells)], .agg [.list 2 (sits (lfpP p).sites), .list 1 (lls (lfpP p).regs), .list 1 (lays (lfpP p).cells)]] (.bool true) := fun h => c4b (c7v (b3b h) (a5o h) 1000000 (by decide)) (c7v (b3b h) (b1o (a4b h)).form 1000000 (by decide)) (d1n h)
 have hq : a2v p = true -> a2y p (lfpP p) = true := d3i
 have hq2 : a2y p x = true -> a2v p = true := a4b
 generalize a2y p (lfpP p) = q at hr hq
 generalize lfpP p = l at *
 cases g3 : a2v p
 all_goals rw [g3] at hv hq hq2
 all_goals cases g4 : a2y p x
 all_goals rw [g4] at hs hk0 hq2
 all_goals first | (have hk := hk0 rfl; clear hk0) | clear hk0
 all_goals first | (have hq3 := hq2 rfl; cases hq3; done) | clear hq2
 all_goals first | (have hq3 := hq rfl; subst hq3; clear hq) | clear hq
 all_goals cases g1 : b9a p
 all_goals rw [g1] at hg
 all_goals cases g2 : b0b x
 all_goals rw [g2] at hl
 all_goals cases g5 : b0b l
 all_goals rw [g5] at hl2
 all_goals
  refine a3d (res := [.tmp 4]) 6 40 [] (fun d ix => 0 :: d :: ix) (fn := Tryz.f6) (by kernel_rfl) (by rfl) (by rfl) (by rfl) (by simp) (by decide) ?_
  repeat' first
   | with_reducible refine stp ?_
   | (with_reducible refine stpK ?_; intro K hK)
   | (with_reducible refine stpC ?_; intro T E hT hE)
   | (with_reducible refine stp2 ?_ ?_ <;> intro h)
   | with_reducible first | refine a0p rfl ?_ | refine a1h b1g (by simp [nls, nl, *, NLXB]) ?_ | refine hpc b1g (by simp [nls, nl, *, NLXB]) ?_ | refine a1h hg (by simp [nls, nl, *, NLXB]) ?_ | refine hpc hg (by simp [nls, nl, *, NLXB]) ?_ | refine a1h hl (by simp [nls, nl, *, NLXB]) ?_ | refine hpc hl (by simp [nls, nl, *, NLXB]) ?_ | refine a1h hv (by simp [nls, nl, *, NLXB]) ?_ | refine hpc hv (by simp [nls, nl, *, NLXB]) ?_ | refine a1h ha (by simp [nls, nl, *, NLXB]) ?_ | refine hpc ha (by simp [nls, nl, *, NLXB]) ?_ | refine a1h hl2 (by simp [nls, nl, *, NLXB]) ?_ | refine hpc hl2 (by simp [nls, nl, *, NLXB]) ?_ | refine a1h hr (by simp [nls, nl, *, NLXB]) ?_ | refine hpc hr (by simp [nls, nl, *, NLXB]) ?_ | refine a1h hs (by simp [nls, nl, *, NLXB]) ?_ | refine hpc hs (by simp [nls, nl, *, NLXB]) ?_ | refine a1h hk (by simp [nls, nl, *, NLXB]) ?_ | refine hpc hk (by simp [nls, nl, *, NLXB]) ?_ | refine a1r rfl (Nat.le_of_ble_eq_true rfl) a0r ?_ | refine a1r rfl (Nat.le_of_ble_eq_true rfl) (a0q (by simp [HPXB, ext, upd, *])) ?_ | refine a1s (by decide) (by kernel_rfl) ?_ | refine a0x (by decide) ?_
   | (with_reducible refine Kont.go hK ?_; clear hK K)
   | ((with_reducible first | refine KT.go hT ?_ | refine KT.go hE ?_); clear hT hE T E)
   | simp [*, -List.all_flatten, -List.all_eq_true, DEFB, asR]
end Go.Ge
