/- Parts of the proof. -/
import Derived.Test.YtfhhgjbcenhdeaaR46
set_option linter.unusedSimpArgs false
set_option linter.unusedVariables false
namespace Go.He
open Go Go.FM Go.Gv Go.Proofs
set_option maxRecDepth 100000
set_option maxHeartbeats 40000000
theorem b6q {p : Pg} (hb : PgB p) {x : Pts} (hx : PtB 2000000 x) : PC Try.prog Gl 3 [.agg [.list 4 (fns p.funcs), .list 2 (gbs p.globals), .list 1 (lays p.layouts), .int .i64 p.main], .agg [.list 2 (sits x.sites), .list 1 (lls x.regs), .list 1 (lays x.cells)]] (.bool true) := by
 have hg := b9j p hb.f hb.c
 have hl := c5l hx
 have hc := e3n hx
 have hs := b3k hb hx
 have hr := d0t hb hx
 have hxs := hx.s
 have hln := b2x p x
 have hq := e3k (a := shP p x) (by omega)
 have hm := c5n (y := x) hx
 rw [b6x rfl] at hm
 generalize shP p x = l at hs hr hq
 clear hln
 cases g1 : c2l p
 all_goals rw [g1] at hg
 all_goals cases g2 : c6s x
 all_goals rw [g2] at hl
 all_goals
  refine a3w (res := [.tmp 4]) 6 28 [] (fun d ix => 0 :: d :: ix) (fn := Try.f3) (by kernel_rfl) (by rfl) (by rfl) (by rfl) (by simp) (by decide) ?_
  repeat' first
   | with_reducible first | refine a0p (id := 6) 12 a0k (by kernel_rfl) fun K hK => ?_ | refine stp ?_
   | (with_reducible refine stpK ?_; intro K hK)
   | (with_reducible refine stpC ?_; intro T E hT hE)
   | (with_reducible refine stp2 ?_ ?_ <;> intro h)
   | with_reducible first | refine a0q rfl ?_ | refine a1n b4d (by simp [nls, nl, *, NLXB]) ?_ | refine hpc b4d (by simp [nls, nl, *, NLXB]) ?_ | refine a1n hg (by simp [nls, nl, *, NLXB]) ?_ | refine hpc hg (by simp [nls, nl, *, NLXB]) ?_ | refine a1n hl (by simp [nls, nl, *, NLXB]) ?_ | refine hpc hl (by simp [nls, nl, *, NLXB]) ?_ | refine a1n hc (by simp [nls, nl, *, NLXB]) ?_ | refine hpc hc (by simp [nls, nl, *, NLXB]) ?_ | refine a1n hs (by simp [nls, nl, *, NLXB]) ?_ | refine hpc hs (by simp [nls, nl, *, NLXB]) ?_ | refine a1n hr (by simp [nls, nl, *, NLXB]) ?_ | refine hpc hr (by simp [nls, nl, *, NLXB]) ?_ | refine a1n hq (by simp [nls, nl, *, NLXB, a1x]) ?_ | refine hpc hq (by simp [nls, nl, *, NLXB, a1x]) ?_ | refine a1n hm (by simp [nls, nl, *, NLXB]) ?_ | refine hpc hm (by simp [nls, nl, *, NLXB]) ?_ | refine a0t rfl (Nat.le_of_ble_eq_true rfl) a0s ?_ | refine a0t rfl (Nat.le_of_ble_eq_true rfl) (a0r (by simp [HPXB, ext, upd, *])) ?_ | refine a1v (by decide) (by kernel_rfl) ?_ | refine a0x (by decide) ?_
   | (with_reducible refine Kont.go hK ?_; clear hK K)
   | ((with_reducible first | refine KT.go hT ?_ | refine KT.go hE ?_); clear hT hE T E)
   | simp [*, -List.all_flatten, -List.all_eq_true, DEFB, LENB, asR, a1t, a9f, a6k, a1x]
end Go.He
