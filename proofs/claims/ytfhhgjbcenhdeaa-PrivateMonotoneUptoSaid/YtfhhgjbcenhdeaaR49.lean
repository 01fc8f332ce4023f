/- Parts of the proof. -/
import Derived.Test.YtfhhgjbcenhdeaaR46
set_option linter.unusedSimpArgs false
set_option linter.unusedVariables false
namespace Go.He
open Go Go.FM Go.Gv Go.Proofs
set_option maxRecDepth 100000
set_option maxHeartbeats 40000000
theorem b4f {p : Pg} (hb : PgB p) {x : Pts} (hx : PtB 2000000 x) : PC Try.prog Gl 4 [.agg [.list 4 (fns p.funcs), .list 2 (gbs p.globals), .list 1 (lays p.layouts), .int .i64 p.main], .agg [.list 2 (sits x.sites), .list 1 (lls x.regs), .list 1 (lays x.cells)]] (.bool true) := by
 have hg := b9j p hb.f hb.c
 have hl := c5l hx
 have hr := c5o hb hx
 have ha := b4e hb
 have hsa := b3k hb (c6p p)
 have hsb := b3k hb hx
 have hm0 : a3e p x = true -> _ := e3x (p := p) (x := x)
 have hl0 : a3e p x = true -> _ := e9c (p := p) (x := x)
 have hl1 := b2x p x
 have hxs := hx.s
 generalize shP p (lfpP p) = a at *
 generalize shP p x = b at *
 generalize lfpP p = z at *
 cases g3 : a3e p x
 all_goals rw [g3] at hr
 all_goals first | (have hab := hm0 g3; have hal := hl0 g3; clear hm0 hl0) | clear hm0 hl0
 all_goals cases g1 : c2l p
 all_goals rw [g1] at hg
 all_goals cases g2 : c6s x
 all_goals rw [g2] at hl
 all_goals
  refine a3w (res := [.tmp 4]) 8 51 [] (fun d ix => 0 :: d :: ix) (fn := Try.f4) (by kernel_rfl) (by rfl) (by rfl) (by rfl) (by simp) (by decide) ?_
  repeat' first
   | ((with_reducible refine a1o ?_); refine a2h (σ := {i : Nat // i <= a.length}) (fun y => [(7, .int .i64 (y.1 : Int))]) [] (fun y => []) [] (fun y => []) (fun y => noH) (fun y => a.length - y.1) ⟨0, by simp⟩ (gk3 (j := 0) [] (Bs.pc _) ?_ ?_ ?_ ?_ ?_ ?_ ?_) ?_; (iterate 7 (focus (first | rfl | (simp [LPXB, *, SIMB, hdN, injB, a1t, a1x]; done)))); rintro ⟨i, hi⟩; simp only [lpS, LPXB]; (try dsimp only at hi); rcases a1l hi with hlt | ⟨hlt, rfl⟩; have wi := wli hlt (by omega); have hib : i < b.length := (by omega); have hga := a5r hlt; have hgb := a5r hib; have hmo := hab i hlt hib; cases e1 : (a[i]'hlt); rw [e1] at hga; clear hmo; rotate_left; rw [e1] at hga; have e2 := hmo e1; rw [e2] at hgb; rotate_left)
   | ((with_reducible refine a1j ?_); refine a1w (⟨i + 1, by omega⟩) (gk3 (j := 0) [] (Bs.pc _) ?_ ?_ ?_ ?_ ?_ ?_ ?_) ?_; (iterate 7 (focus (first | rfl | (simp [LPXB, *, SIMB, hdN, injB, a1t, a1x]; done)))); (focus (dsimp only; omega)))
   | with_reducible first | refine a0p (id := 5) 7 a0k (by kernel_rfl) fun K hK => ?_ | refine stp ?_
   | (with_reducible refine stpK ?_; intro K hK)
   | (with_reducible refine stpC ?_; intro T E hT hE)
   | (with_reducible refine stp2 ?_ ?_ <;> intro h)
   | with_reducible first | refine a0q rfl ?_ | refine a1n b4d (by simp [nls, nl, *, NLXB]) ?_ | refine hpc b4d (by simp [nls, nl, *, NLXB]) ?_ | refine a1n hg (by simp [nls, nl, *, NLXB]) ?_ | refine hpc hg (by simp [nls, nl, *, NLXB]) ?_ | refine a1n hl (by simp [nls, nl, *, NLXB]) ?_ | refine hpc hl (by simp [nls, nl, *, NLXB]) ?_ | refine a1n hr (by simp [nls, nl, *, NLXB]) ?_ | refine hpc hr (by simp [nls, nl, *, NLXB]) ?_ | refine a1n ha (by simp [nls, nl, *, NLXB]) ?_ | refine hpc ha (by simp [nls, nl, *, NLXB]) ?_ | refine a1n hsa (by simp [nls, nl, *, NLXB]) ?_ | refine hpc hsa (by simp [nls, nl, *, NLXB]) ?_ | refine a1n hsb (by simp [nls, nl, *, NLXB]) ?_ | refine hpc hsb (by simp [nls, nl, *, NLXB]) ?_ | refine a0t rfl (Nat.le_of_ble_eq_true rfl) a0s ?_ | refine a0t rfl (Nat.le_of_ble_eq_true rfl) (a0r (by simp [HPXB, ext, upd, *])) ?_ | refine a1v (by decide) (by kernel_rfl) ?_ | refine a0x (by decide) ?_
   | (with_reducible refine Kont.go hK ?_; clear hK K)
   | ((with_reducible first | refine KT.go hT ?_ | refine KT.go hE ?_); clear hT hE T E)
   | simp [*, -List.all_flatten, -List.all_eq_true, DEFB, LENB, asR, a1t, a9f, a6k, a1x]
end Go.He
