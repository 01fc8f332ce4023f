/- Parts of the proof. -/
import Derived.Test.YtfhhgjbcenhdeaaR12
set_option linter.unusedSimpArgs false
set_option linter.unusedVariables false
namespace Go.He
open Go Go.FM Go.Gv Go.Proofs
set_option maxRecDepth 100000
set_option maxHeartbeats 40000000
theorem c35 (p : Pg) (f : FnD) (hc : f.code.length <= 2000000) (hf : p.funcs.length <= 2000000) (hg : p.globals.length <= 2000000) (hl : p.layouts.length <= 2000000) : PC Try.prog Gl 41 [.agg [.list 4 (fns p.funcs), .list 2 (gbs p.globals), .list 1 (lays p.layouts), .int .i64 p.main, .str f.name, .int .i64 f.params, .int .i64 f.regs, .list 5 (inss f.code)]] (.bool (fnI p f)) := by
 have w1 := wl f.code.length (by omega)
 rcases c7u f.code with hn | ⟨hn, n1, z, n2, n3, n4⟩
 all_goals
  refine b0o (res := [.tmp 2]) 9 75 [49, 48, 47] (fun d ix => d :: ix) (fn := Try.f41) (by kernel_rfl) (by rfl) (by rfl) (by rfl) (by simp) (by decide) ?_
  repeat' first
   | ((with_reducible refine a1o ?_); refine a7w (fun y : {y : Nat × Int // y.1 <= f.code.length /\ b3r p f f.code 0 = b3r p f (f.code.drop y.1) y.2} => (⟨[.agg [.list 4 (fns p.funcs), .list 2 (gbs p.globals), .list 1 (lays p.layouts), .int .i64 p.main, .str f.name, .int .i64 f.params, .int .i64 f.regs, .list 5 (inss f.code)], .ptr [1] 8 0 0, .bool false, .ptr [3] 4 0 0, .int .i64 (f.code.length : Int), .undef, .int .i64 y.1.2, .undef, .undef], [(47, .list 5 (inss f.code)), (48, .int .i64 (f.code.length : Int)), (49, .int .i64 (y.1.1 : Int))], hpL [([1], .cells 79 8 [[.list 4 (fns p.funcs), .list 2 (gbs p.globals), .list 1 (lays p.layouts), .int .i64 p.main, .str f.name, .int .i64 f.params, .int .i64 f.regs, .list 5 (inss f.code)]]), ([3], .cells 45 4 [[.str f.name, .int .i64 f.params, .int .i64 f.regs, .list 5 (inss f.code)]])], []⟩ : Fs)) (fun y => f.code.length - y.1.1) ⟨(0, 0), by simp⟩ (a4p [] (fun _ h => h) (by rfl) ?_ ?_ ?_) ?_; (focus (simp [*, SIMF, a0c, a0f, a0m, a1b, a1c, a0b, a0h, a0n, a1g, a1h, a0e, a0j, a0v, a1r, a1s, a0i, a0o, a0u, a1p, a1q, a0a, a0g, a0l, a1e, a1f, List.take_of_length_le, List.filter_append, *]; done)); (focus (simp [*, SIMF, a0c, a0f, a0m, a1b, a1c, a0b, a0h, a0n, a1g, a1h, a0e, a0j, a0v, a1r, a1s, a0i, a0o, a0u, a1p, a1q, a0a, a0g, a0l, a1e, a1f, List.take_of_length_le, List.filter_append]; done)); (focus (simp [*, SIMF, a0c, a0f, a0m, a1b, a1c, a0b, a0h, a0n, a1g, a1h, a0e, a0j, a0v, a1r, a1s, a0i, a0o, a0u, a1p, a1q, a0a, a0g, a0l, a1e, a1f, List.take_of_length_le, List.filter_append, *]; done)); rintro ⟨⟨i, e⟩, hi, hk⟩; (try dsimp only at hi hk); have hk2 := hk; rcases a1l hi with hlt | ⟨hlt, rfl⟩; rw [d7t hlt] at hk2; have wi := wli hlt (by omega); rotate_left; rw [c7r, b3r] at hk2; rotate_left)
   | ((with_reducible refine a1j ?_); refine a1w (⟨(i + 1, W (e - 1)), by dsimp only; omega, by dsimp only; rw [hk2]; simp [*]⟩) (a4p [] (fun _ h => h) (by rfl) ?_ ?_ ?_) (by dsimp only; omega); (focus (simp [*, SIMF, a0c, a0f, a0m, a1b, a1c, a0b, a0h, a0n, a1g, a1h, a0e, a0j, a0v, a1r, a1s, a0i, a0o, a0u, a1p, a1q, a0a, a0g, a0l, a1e, a1f, List.take_of_length_le, List.filter_append, *]; done)); (focus (simp [*, SIMF, a0c, a0f, a0m, a1b, a1c, a0b, a0h, a0n, a1g, a1h, a0e, a0j, a0v, a1r, a1s, a0i, a0o, a0u, a1p, a1q, a0a, a0g, a0l, a1e, a1f, List.take_of_length_le, List.filter_append, *]; done)); (focus (simp [*, SIMF, a0c, a0f, a0m, a1b, a1c, a0b, a0h, a0n, a1g, a1h, a0e, a0j, a0v, a1r, a1s, a0i, a0o, a0u, a1p, a1q, a0a, a0g, a0l, a1e, a1f, List.take_of_length_le, List.filter_append, *]; done)))
   | ((with_reducible refine a1j ?_); refine a1w (⟨(i + 1, f.code[i].b), by dsimp only; omega, by dsimp only; rw [hk2]; simp [*]⟩) (a4p [] (fun _ h => h) (by rfl) ?_ ?_ ?_) (by dsimp only; omega); (focus (simp [*, SIMF, a0c, a0f, a0m, a1b, a1c, a0b, a0h, a0n, a1g, a1h, a0e, a0j, a0v, a1r, a1s, a0i, a0o, a0u, a1p, a1q, a0a, a0g, a0l, a1e, a1f, List.take_of_length_le, List.filter_append, *]; done)); (focus (simp [*, SIMF, a0c, a0f, a0m, a1b, a1c, a0b, a0h, a0n, a1g, a1h, a0e, a0j, a0v, a1r, a1s, a0i, a0o, a0u, a1p, a1q, a0a, a0g, a0l, a1e, a1f, List.take_of_length_le, List.filter_append, *]; done)); (focus (simp [*, SIMF, a0c, a0f, a0m, a1b, a1c, a0b, a0h, a0n, a1g, a1h, a0e, a0j, a0v, a1r, a1s, a0i, a0o, a0u, a1p, a1q, a0a, a0g, a0l, a1e, a1f, List.take_of_length_le, List.filter_append, *]; done)))
   | ((with_reducible refine a1j ?_); refine a1w (⟨(i + 1, e), by dsimp only; omega, by dsimp only; rw [hk2]; simp [*]⟩) (a4p [] (fun _ h => h) (by rfl) ?_ ?_ ?_) (by dsimp only; omega); (focus (simp [*, SIMF, a0c, a0f, a0m, a1b, a1c, a0b, a0h, a0n, a1g, a1h, a0e, a0j, a0v, a1r, a1s, a0i, a0o, a0u, a1p, a1q, a0a, a0g, a0l, a1e, a1f, List.take_of_length_le, List.filter_append, *]; done)); (focus (simp [*, SIMF, a0c, a0f, a0m, a1b, a1c, a0b, a0h, a0n, a1g, a1h, a0e, a0j, a0v, a1r, a1s, a0i, a0o, a0u, a1p, a1q, a0a, a0g, a0l, a1e, a1f, List.take_of_length_le, List.filter_append, *]; done)); (focus (simp [*, SIMF, a0c, a0f, a0m, a1b, a1c, a0b, a0h, a0n, a1g, a1h, a0e, a0j, a0v, a1r, a1s, a0i, a0o, a0u, a1p, a1q, a0a, a0g, a0l, a1e, a1f, List.take_of_length_le, List.filter_append, *]; done)))
   | with_reducible refine stp ?_
   | (with_reducible refine stpK ?_; intro K hK)
   | (with_reducible refine stpC ?_; intro T E hT hE)
   | (with_reducible refine stp2 ?_ ?_ <;> intro h)
   | with_reducible first | refine a0q rfl ?_ | refine a1n (c31 _ _ _) (by simp [nls, nl, *, a0b, a0e, a0i, a0a, a0c]) ?_ | refine hpc (c31 _ _ _) (by simp [nls, nl, *, a0b, a0e, a0i, a0a, a0c]) ?_ | refine a1n (c61 p f _ hc hf hg hl) (by simp [nls, nl, *, a0b, a0e, a0i, a0a, a0c]) ?_ | refine hpc (c61 p f _ hc hf hg hl) (by simp [nls, nl, *, a0b, a0e, a0i, a0a, a0c]) ?_ | refine a0t rfl (by decide) a0s ?_ | refine a0t rfl (by decide) (a0r (by simp [upd, noH, ext, a5v, a4o, *])) ?_ | refine a1v (by decide) (by kernel_rfl) ?_ | refine a0x (by decide) ?_
   | (with_reducible refine Kont.go hK ?_; clear hK K)
   | ((with_reducible first | refine KT.go hT ?_ | refine KT.go hE ?_); clear hT hE T E)
   | simp [*, -List.all_flatten, -List.all_eq_true, DEFO, -Bool.decide_and, eqV, a0f, a0h, a0j, a0o, a0g, a0c, a0b, a0e, a0i, a0a, a6x, a2r, a3c, b0s, a2x, a2j, Ins.row, FnD.row, Gb.row, a2i, Int.le_sub_one_iff, List.length_drop]
  all_goals first
   | (simp_all [fnI, b2k, b1g, btw, W]; done)
   | (clear hk; simp_all [fnI, b2k, b1g, btw, W]; done)
   | (clear hk; rw [<- Bool.not_eq_true]; intro hh; simp [fnI, b2k, b1g, btw, *] at hh <;> omega)
   | (clear hk; have q1 : f.code.length <= 1000 := (by omega); have q2 : f.regs <= 64 := (by omega); simp [fnI, b2k, b1g, btw, W, *]; done)
   | (rw [<- Bool.not_eq_true]; intro hh; simp [fnI, b2k, b1g, btw, *] at hh <;> omega)
   | trace_state
end Go.He
