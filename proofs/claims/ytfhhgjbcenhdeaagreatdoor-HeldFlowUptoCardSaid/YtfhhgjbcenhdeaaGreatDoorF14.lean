/- Parts of the proof. -/
import Derived.Test.YtfhhgjbcenhdeaaGreatDoorF11
set_option linter.unusedSimpArgs false
set_option linter.unusedVariables false
namespace Go.Je
open Go Go.FM Go.Gv Go.Proofs
set_option maxRecDepth 100000
set_option maxHeartbeats 40000000
theorem c61 (p : Pg) (f : FnD) (x : Ins) (hc : f.code.length <= 2000000) (hf : p.funcs.length <= 2000000) (hg : p.globals.length <= 2000000) (hl : p.layouts.length <= 2000000) : PC Tryz.prog Gl 124 [.agg [.list 4 (fns p.funcs), .list 2 (gbs p.globals), .list 1 (lays p.layouts), .int .i64 p.main, .str f.name, .int .i64 f.params, .int .i64 f.regs, .list 5 (inss f.code)], .agg [.int .i64 x.op, .int .i64 x.a, .int .i64 x.b, .int .i64 x.c, .int .i64 x.d]] (.bool (a9a p f x)) := by
 by_cases ho : 1 <= x.op /\ x.op <= 52
 obtain ⟨⟨i1, i2, i3⟩, ⟨j1, j2, j3⟩, j4⟩ := c5t ho
 all_goals
  refine a8v (res := [.tmp 4]) 9 55 [29, 28] (fun d ix => d :: ix) (fn := Tryz.f124) (by kernel_rfl) (by rfl) (by rfl) (by rfl) (by simp) (by decide) ?_
  repeat' first
   | ((with_reducible refine a1a ?_); refine a7t (fun y : {i : Nat // i <= 3 /\ ((0 < i -> opI p f x (rI x.op).1 x.a = true) /\ (1 < i -> opI p f x (rI x.op).2.1 x.b = true) /\ (2 < i -> opI p f x (rI x.op).2.2 x.c = true))} => (⟨[.agg [.list 4 (fns p.funcs), .list 2 (gbs p.globals), .list 1 (lays p.layouts), .int .i64 p.main, .str f.name, .int .i64 f.params, .int .i64 f.regs, .list 5 (inss f.code)], .agg [.int .i64 x.op, .int .i64 x.a, .int .i64 x.b, .int .i64 x.c, .int .i64 x.d], .ptr [2] 8 0 0, .ptr [3] 5 0 0, .bool false, .ptr [5] 2 0 0, .bool true, .undef, .undef], [(28, .agg [.int .i64 x.a, .int .i64 x.b, .int .i64 x.c]), (29, .int .i64 (y.1 : Int))], hpL [([2], .cells 119 8 [[.list 4 (fns p.funcs), .list 2 (gbs p.globals), .list 1 (lays p.layouts), .int .i64 p.main, .str f.name, .int .i64 f.params, .int .i64 f.regs, .list 5 (inss f.code)]]), ([3], .cells 42 5 [[.int .i64 x.op, .int .i64 x.a, .int .i64 x.b, .int .i64 x.c, .int .i64 x.d]]), ([5], .cells 195 2 [[.str (wdI x.op), .str (rlI x.op)]])], []⟩ : Fs)) (fun y => 3 - y.1) ⟨0, by simp⟩ (a3m [] (fun _ h => h) (by rfl) ?_ ?_ ?_) ?_; (focus (simp [*, SIMF, NLQ, tL_, fA_, *]; done)); (focus (simp [*, SIMF, NLQ, tL_, fA_]; done)); (focus (simp [*, SIMF, NLQ, tL_, fA_, *]; done)); rintro ⟨i, hi, hk⟩; rcases f5y hi with rfl | rfl | rfl | rfl)
   | ((with_reducible refine a0q ?_); refine a1b (⟨1, by simp_all⟩) (a3m [] (fun _ h => h) (by rfl) ?_ ?_ ?_) (by dsimp only; omega); (iterate 3 (focus (simp [*, SIMF, NLQ, tL_, fA_, *]; done))))
   | ((with_reducible refine a0q ?_); refine a1b (⟨2, by simp_all⟩) (a3m [] (fun _ h => h) (by rfl) ?_ ?_ ?_) (by dsimp only; omega); (iterate 3 (focus (simp [*, SIMF, NLQ, tL_, fA_, *]; done))))
   | ((with_reducible refine a0q ?_); refine a1b (⟨3, by simp_all⟩) (a3m [] (fun _ h => h) (by rfl) ?_ ?_ ?_) (by dsimp only; omega); (iterate 3 (focus (simp [*, SIMF, NLQ, tL_, fA_, *]; done))))
   | with_reducible first | refine stp ?_ | refine stpK ?_; intro K hK | refine stpC ?_; intro T E hT hE | refine stp2 ?_ ?_ <;> intro h | refine a2j (id := 7) 9 a0y (by kernel_rfl) fun K hK => ?_ | refine a0g rfl ?_ | refine a1e (d7b _ ho) (by simp [nls, nl, *, a0b, a0e, a0m, a0c, a0a]) ?_ | refine hpc (d7b _ ho) (by simp [nls, nl, *, a0b, a0e, a0m, a0c, a0a]) ?_ | refine a1e (c8p _ ho) (by simp [nls, nl, *, a0b, a0e, a0m, a0c, a0a]) ?_ | refine hpc (c8p _ ho) (by simp [nls, nl, *, a0b, a0e, a0m, a0c, a0a]) ?_ | refine a1e (c109 p f x _ _ hc hf hg hl) (by simp [nls, nl, *, a0b, a0e, a0m, a0c, a0a]) ?_ | refine hpc (c109 p f x _ _ hc hf hg hl) (by simp [nls, nl, *, a0b, a0e, a0m, a0c, a0a]) ?_ | refine a0j rfl (by decide) a0i ?_ | refine a0j rfl (by decide) (a0h (by simp [upd, noH, ext, a4w, a3l, *])) ?_ | refine a1g (by decide) (by kernel_rfl) ?_ | refine a0o (by decide) ?_ | refine Kont.go hK ?_; clear hK K | refine KT.go hT ?_; clear hT hE T E | refine KT.go hE ?_; clear hT hE T E
   | simp [*, -List.all_flatten, -List.all_eq_true, DEFO, -Bool.decide_and, f5c, f5b, f5a, IntKind.wrap_i64, a0n, a0x, a1c, a3c, a1n, a0a, a0b, a0e, a0m, a0c, a4z, a2b, a2o, a9b, a6k, a2f, Ins.row, FnD.row, Gb.row, a3w, Int.le_sub_one_iff]
  all_goals first
   | (simp_all [a9a]; done)
   | (simp_all [a9a, W, IntKind.wrap_i64]; done)
   | (rw [<- Bool.not_eq_true]; intro hh; simp [a9a, *] at hh <;> omega)
   | trace_state
theorem c35 (p : Pg) (f : FnD) (hc : f.code.length <= 2000000) (hf : p.funcs.length <= 2000000) (hg : p.globals.length <= 2000000) (hl : p.layouts.length <= 2000000) : PC Tryz.prog Gl 76 [.agg [.list 4 (fns p.funcs), .list 2 (gbs p.globals), .list 1 (lays p.layouts), .int .i64 p.main, .str f.name, .int .i64 f.params, .int .i64 f.regs, .list 5 (inss f.code)]] (.bool (fnI p f)) := by
 have w1 := wl f.code.length (by omega)
 rcases c8m f.code with hn | ⟨hn, n1, z, n2, n3, n4⟩
 all_goals
  refine a8v (res := [.tmp 2]) 9 75 [49, 48, 47] (fun d ix => d :: ix) (fn := Tryz.f76) (by kernel_rfl) (by rfl) (by rfl) (by rfl) (by simp) (by decide) ?_
  repeat' first
   | ((with_reducible refine a1a ?_); refine a7t (fun y : {y : Nat × Int // y.1 <= f.code.length /\ b2j p f f.code 0 = b2j p f (f.code.drop y.1) y.2} => (⟨[.agg [.list 4 (fns p.funcs), .list 2 (gbs p.globals), .list 1 (lays p.layouts), .int .i64 p.main, .str f.name, .int .i64 f.params, .int .i64 f.regs, .list 5 (inss f.code)], .ptr [1] 8 0 0, .bool false, .ptr [3] 4 0 0, .int .i64 (f.code.length : Int), .undef, .int .i64 y.1.2, .undef, .undef], [(47, .list 5 (inss f.code)), (48, .int .i64 (f.code.length : Int)), (49, .int .i64 (y.1.1 : Int))], hpL [([1], .cells 119 8 [[.list 4 (fns p.funcs), .list 2 (gbs p.globals), .list 1 (lays p.layouts), .int .i64 p.main, .str f.name, .int .i64 f.params, .int .i64 f.regs, .list 5 (inss f.code)]]), ([3], .cells 35 4 [[.str f.name, .int .i64 f.params, .int .i64 f.regs, .list 5 (inss f.code)]])], []⟩ : Fs)) (fun y => f.code.length - y.1.1) ⟨(0, 0), by simp⟩ (a3m [] (fun _ h => h) (by rfl) ?_ ?_ ?_) ?_; (focus (simp [*, SIMF, NLQ, tL_, fA_, *]; done)); (focus (simp [*, SIMF, NLQ, tL_, fA_]; done)); (focus (simp [*, SIMF, NLQ, tL_, fA_, *]; done)); rintro ⟨⟨i, e⟩, hi, hk⟩; (try dsimp only at hi hk); have hk2 := hk; rcases a0z hi with hlt | ⟨hlt, rfl⟩; rw [e0d hlt] at hk2; have wi := wli hlt (by omega); rotate_left; rw [c8i, b2j] at hk2; rotate_left)
   | ((with_reducible refine a0q ?_); refine a1b (⟨(i + 1, W (e - 1)), by dsimp only; omega, by dsimp only; rw [hk2]; simp [*]⟩) (a3m [] (fun _ h => h) (by rfl) ?_ ?_ ?_) (by dsimp only; omega); (iterate 3 (focus (simp [*, SIMF, NLQ, tL_, fA_, *]; done))))
   | ((with_reducible refine a0q ?_); refine a1b (⟨(i + 1, f.code[i].b), by dsimp only; omega, by dsimp only; rw [hk2]; simp [*]⟩) (a3m [] (fun _ h => h) (by rfl) ?_ ?_ ?_) (by dsimp only; omega); (iterate 3 (focus (simp [*, SIMF, NLQ, tL_, fA_, *]; done))))
   | ((with_reducible refine a0q ?_); refine a1b (⟨(i + 1, e), by dsimp only; omega, by dsimp only; rw [hk2]; simp [*]⟩) (a3m [] (fun _ h => h) (by rfl) ?_ ?_ ?_) (by dsimp only; omega); (iterate 3 (focus (simp [*, SIMF, NLQ, tL_, fA_, *]; done))))
   | with_reducible first | refine stp ?_ | refine stpK ?_; intro K hK | refine stpC ?_; intro T E hT hE | refine stp2 ?_ ?_ <;> intro h | refine a0g rfl ?_ | refine a1e (c31 _ _ _) (by simp [nls, nl, *, a0b, a0e, a0m, a0c, a0a]) ?_ | refine hpc (c31 _ _ _) (by simp [nls, nl, *, a0b, a0e, a0m, a0c, a0a]) ?_ | refine a1e (c61 p f _ hc hf hg hl) (by simp [nls, nl, *, a0b, a0e, a0m, a0c, a0a]) ?_ | refine hpc (c61 p f _ hc hf hg hl) (by simp [nls, nl, *, a0b, a0e, a0m, a0c, a0a]) ?_ | refine a0j rfl (by decide) a0i ?_ | refine a0j rfl (by decide) (a0h (by simp [upd, noH, ext, a4w, a3l, *])) ?_ | refine a1g (by decide) (by kernel_rfl) ?_ | refine a0o (by decide) ?_ | refine Kont.go hK ?_; clear hK K | refine KT.go hT ?_; clear hT hE T E | refine KT.go hE ?_; clear hT hE T E
   | simp [*, -List.all_flatten, -List.all_eq_true, DEFO, -Bool.decide_and, eqV, a0n, a0x, a1c, a3c, a1n, a0a, a0b, a0e, a0m, a0c, a4z, a2b, a2o, a9b, a6k, a2f, Ins.row, FnD.row, Gb.row, a3w, Int.le_sub_one_iff, List.length_drop]
  all_goals first
   | (simp_all [fnI, a9f, a8z, btw, W]; done)
   | (clear hk; simp_all [fnI, a9f, a8z, btw, W]; done)
   | (clear hk; rw [<- Bool.not_eq_true]; intro hh; simp [fnI, a9f, a8z, btw, *] at hh <;> omega)
   | (clear hk; have q1 : f.code.length <= 1000 := (by omega); have q2 : f.regs <= 64 := (by omega); simp [fnI, a9f, a8z, btw, W, *]; done)
   | (rw [<- Bool.not_eq_true]; intro hh; simp [fnI, a9f, a8z, btw, *] at hh <;> omega)
   | trace_state
end Go.Je
