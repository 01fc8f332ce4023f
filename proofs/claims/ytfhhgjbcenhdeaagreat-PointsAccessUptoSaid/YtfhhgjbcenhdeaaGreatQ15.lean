/- Parts of the proof. -/
import Derived.Test.YtfhhgjbcenhdeaaGreatQ12
set_option linter.unusedSimpArgs false
set_option linter.unusedVariables false
namespace Go.Ge
open Go Go.FM Go.Gv Go.Proofs
set_option maxRecDepth 100000
set_option maxHeartbeats 40000000
theorem c35 (p : Pg) (f : FnD) (hc : f.code.length <= 2000000) (hf : p.funcs.length <= 2000000) (hg : p.globals.length <= 2000000) (hl : p.layouts.length <= 2000000) : PC Tryz.prog Gl 48 [.agg [.list 4 (fns p.funcs), .list 2 (gbs p.globals), .list 1 (lays p.layouts), .int .i64 p.main, .str f.name, .int .i64 f.params, .int .i64 f.regs, .list 5 (inss f.code)]] (.bool (fnI p f)) := by
 have w1 := wl f.code.length (by omega)
 rcases c8l f.code with hn | ⟨hn, n1, z, n2, n3, n4⟩
 all_goals
  refine b0f (res := [.tmp 2]) 9 75 [49, 48, 47] (fun d ix => d :: ix) (fn := Tryz.f48) (by kernel_rfl) (by rfl) (by rfl) (by rfl) (by simp) (by decide) ?_
  repeat' first
   | ((with_reducible refine a1u ?_); refine a7m (fun y : {y : Nat × Int // y.1 <= f.code.length /\ b3w p f f.code 0 = b3w p f (f.code.drop y.1) y.2} => (⟨[.agg [.list 4 (fns p.funcs), .list 2 (gbs p.globals), .list 1 (lays p.layouts), .int .i64 p.main, .str f.name, .int .i64 f.params, .int .i64 f.regs, .list 5 (inss f.code)], .ptr [1] 8 0 0, .bool false, .ptr [3] 4 0 0, .int .i64 (f.code.length : Int), .undef, .int .i64 y.1.2, .undef, .undef], [(47, .list 5 (inss f.code)), (48, .int .i64 (f.code.length : Int)), (49, .int .i64 (y.1.1 : Int))], hpL [([1], .cells 84 8 [[.list 4 (fns p.funcs), .list 2 (gbs p.globals), .list 1 (lays p.layouts), .int .i64 p.main, .str f.name, .int .i64 f.params, .int .i64 f.regs, .list 5 (inss f.code)]]), ([3], .cells 48 4 [[.str f.name, .int .i64 f.params, .int .i64 f.regs, .list 5 (inss f.code)]])], []⟩ : Fs)) (fun y => f.code.length - y.1.1) ⟨(0, 0), by simp⟩ (a4j [] (fun _ h => h) (by rfl) ?_ ?_ ?_) ?_; (focus (simp [*, SIMF, a0b, a0e, a0l, a1a, a0w, a0c, a0g, a0n, a1e, a1f, a0f, a0j, a0s, a1m, a1n, a0h, a0o, a0t, a1k, a1l, a0a, a0d, a0k, a1d, a1b, List.take_of_length_le, List.filter_append, *]; done)); (focus (simp [*, SIMF, a0b, a0e, a0l, a1a, a0w, a0c, a0g, a0n, a1e, a1f, a0f, a0j, a0s, a1m, a1n, a0h, a0o, a0t, a1k, a1l, a0a, a0d, a0k, a1d, a1b, List.take_of_length_le, List.filter_append]; done)); (focus (simp [*, SIMF, a0b, a0e, a0l, a1a, a0w, a0c, a0g, a0n, a1e, a1f, a0f, a0j, a0s, a1m, a1n, a0h, a0o, a0t, a1k, a1l, a0a, a0d, a0k, a1d, a1b, List.take_of_length_le, List.filter_append, *]; done)); rintro ⟨⟨i, e⟩, hi, hk⟩; (try dsimp only at hi hk); have hk2 := hk; rcases a1t hi with hlt | ⟨hlt, rfl⟩; rw [d9c hlt] at hk2; have wi := wli hlt (by omega); rotate_left; rw [c8i, b3w] at hk2; rotate_left)
   | ((with_reducible refine a1p ?_); refine a2a (⟨(i + 1, W (e - 1)), by dsimp only; omega, by dsimp only; rw [hk2]; simp [*]⟩) (a4j [] (fun _ h => h) (by rfl) ?_ ?_ ?_) (by dsimp only; omega); (focus (simp [*, SIMF, a0b, a0e, a0l, a1a, a0w, a0c, a0g, a0n, a1e, a1f, a0f, a0j, a0s, a1m, a1n, a0h, a0o, a0t, a1k, a1l, a0a, a0d, a0k, a1d, a1b, List.take_of_length_le, List.filter_append, *]; done)); (focus (simp [*, SIMF, a0b, a0e, a0l, a1a, a0w, a0c, a0g, a0n, a1e, a1f, a0f, a0j, a0s, a1m, a1n, a0h, a0o, a0t, a1k, a1l, a0a, a0d, a0k, a1d, a1b, List.take_of_length_le, List.filter_append, *]; done)); (focus (simp [*, SIMF, a0b, a0e, a0l, a1a, a0w, a0c, a0g, a0n, a1e, a1f, a0f, a0j, a0s, a1m, a1n, a0h, a0o, a0t, a1k, a1l, a0a, a0d, a0k, a1d, a1b, List.take_of_length_le, List.filter_append, *]; done)))
   | ((with_reducible refine a1p ?_); refine a2a (⟨(i + 1, f.code[i].b), by dsimp only; omega, by dsimp only; rw [hk2]; simp [*]⟩) (a4j [] (fun _ h => h) (by rfl) ?_ ?_ ?_) (by dsimp only; omega); (focus (simp [*, SIMF, a0b, a0e, a0l, a1a, a0w, a0c, a0g, a0n, a1e, a1f, a0f, a0j, a0s, a1m, a1n, a0h, a0o, a0t, a1k, a1l, a0a, a0d, a0k, a1d, a1b, List.take_of_length_le, List.filter_append, *]; done)); (focus (simp [*, SIMF, a0b, a0e, a0l, a1a, a0w, a0c, a0g, a0n, a1e, a1f, a0f, a0j, a0s, a1m, a1n, a0h, a0o, a0t, a1k, a1l, a0a, a0d, a0k, a1d, a1b, List.take_of_length_le, List.filter_append, *]; done)); (focus (simp [*, SIMF, a0b, a0e, a0l, a1a, a0w, a0c, a0g, a0n, a1e, a1f, a0f, a0j, a0s, a1m, a1n, a0h, a0o, a0t, a1k, a1l, a0a, a0d, a0k, a1d, a1b, List.take_of_length_le, List.filter_append, *]; done)))
   | ((with_reducible refine a1p ?_); refine a2a (⟨(i + 1, e), by dsimp only; omega, by dsimp only; rw [hk2]; simp [*]⟩) (a4j [] (fun _ h => h) (by rfl) ?_ ?_ ?_) (by dsimp only; omega); (focus (simp [*, SIMF, a0b, a0e, a0l, a1a, a0w, a0c, a0g, a0n, a1e, a1f, a0f, a0j, a0s, a1m, a1n, a0h, a0o, a0t, a1k, a1l, a0a, a0d, a0k, a1d, a1b, List.take_of_length_le, List.filter_append, *]; done)); (focus (simp [*, SIMF, a0b, a0e, a0l, a1a, a0w, a0c, a0g, a0n, a1e, a1f, a0f, a0j, a0s, a1m, a1n, a0h, a0o, a0t, a1k, a1l, a0a, a0d, a0k, a1d, a1b, List.take_of_length_le, List.filter_append, *]; done)); (focus (simp [*, SIMF, a0b, a0e, a0l, a1a, a0w, a0c, a0g, a0n, a1e, a1f, a0f, a0j, a0s, a1m, a1n, a0h, a0o, a0t, a1k, a1l, a0a, a0d, a0k, a1d, a1b, List.take_of_length_le, List.filter_append, *]; done)))
   | with_reducible refine stp ?_
   | (with_reducible refine stpK ?_; intro K hK)
   | (with_reducible refine stpC ?_; intro T E hT hE)
   | (with_reducible refine stp2 ?_ ?_ <;> intro h)
   | with_reducible first | refine a0p rfl ?_ | refine a1h (c31 _ _ _) (by simp [nls, nl, *, a0c, a0f, a0h, a0a, a0b]) ?_ | refine hpc (c31 _ _ _) (by simp [nls, nl, *, a0c, a0f, a0h, a0a, a0b]) ?_ | refine a1h (c61 p f _ hc hf hg hl) (by simp [nls, nl, *, a0c, a0f, a0h, a0a, a0b]) ?_ | refine hpc (c61 p f _ hc hf hg hl) (by simp [nls, nl, *, a0c, a0f, a0h, a0a, a0b]) ?_ | refine a1r rfl (by decide) (by first | exact a0r | exact a0q (by simp [upd, noH, ext, a5z, a4o, *])) ?_ | refine a1s (by decide) (by kernel_rfl) ?_ | refine a0x (by decide) ?_
   | (with_reducible refine Kont.go hK ?_; clear hK K)
   | ((with_reducible first | refine KT.go hT ?_ | refine KT.go hE ?_); clear hT hE T E)
   | simp [*, -List.all_flatten, -List.all_eq_true, DEFO, -Bool.decide_and, eqV, a0e, a0g, a0j, a0o, a0d, a0b, a0c, a0f, a0h, a0a, a5m, a2x, a3m, a9j, a3a, a2p, Ins.row, FnD.row, Gb.row, a2j, Int.le_sub_one_iff, List.length_drop]
  all_goals first
   | (simp_all [fnI, b1w, b0y, btw, W]; done)
   | (clear hk; simp_all [fnI, b1w, b0y, btw, W]; done)
   | (clear hk; rw [<- Bool.not_eq_true]; intro hh; simp [fnI, b1w, b0y, btw, *] at hh <;> omega)
   | (clear hk; have q1 : f.code.length <= 1000 := (by omega); have q2 : f.regs <= 64 := (by omega); simp [fnI, b1w, b0y, btw, W, *]; done)
   | (rw [<- Bool.not_eq_true]; intro hh; simp [fnI, b1w, b0y, btw, *] at hh <;> omega)
   | trace_state
end Go.Ge
