/- Parts of the proof. -/
import Derived.Test.YtfhhgjbcenhdeaaR12
set_option linter.unusedSimpArgs false
set_option linter.unusedVariables false
namespace Go.He
open Go Go.FM Go.Gv Go.Proofs
set_option maxRecDepth 100000
set_option maxHeartbeats 40000000
theorem c66e (p : Pg) (f : FnD) (x : Ins) (o : Int) (ho : x.op = o) (hc : f.code.length <= 2000000) (hf : p.funcs.length <= 2000000) (hg : p.globals.length <= 2000000) (hl : p.layouts.length <= 2000000) : PC Try.prog Gl 36 [.agg [.list 4 (fns p.funcs), .list 2 (gbs p.globals), .list 1 (lays p.layouts), .int .i64 p.main], .agg [.str f.name, .int .i64 f.params, .int .i64 f.regs, .list 5 (inss f.code)], .agg [.int .i64 o, .int .i64 x.a, .int .i64 x.b, .int .i64 x.c, .int .i64 x.d]] (.bool (b0q p f x)) := by subst ho; exact c66 p f x hc hf hg hl
theorem c38 (p : Pg) (f : FnD) (hc : f.code.length <= 2000000) (hf : p.funcs.length <= 2000000) (hg : p.globals.length <= 2000000) (hl : p.layouts.length <= 2000000) : PC Try.prog Gl 25 [.agg [.list 4 (fns p.funcs), .list 2 (gbs p.globals), .list 1 (lays p.layouts), .int .i64 p.main], .agg [.str f.name, .int .i64 f.params, .int .i64 f.regs, .list 5 (inss f.code)]] (.bool (fnR p f)) := by
 have w1 := wl f.code.length (by omega)
 rcases d4t f.name with ⟨m1, m2⟩ | ⟨m1, m2⟩
 all_goals rcases c7u f.code with hn | ⟨hn, n1, z, n2, n3, n4⟩
 all_goals
  refine b0o (res := [.tmp 4]) 9 90 [] (fun d ix => d :: ix) (fn := Try.f25) (by kernel_rfl) (by rfl) (by rfl) (by rfl) (by simp) (by decide) ?_
  repeat' first
   | ((with_reducible refine a1o ?_); refine a7w (fun y : {y : Nat × Int // y.1 <= f.code.length /\ b5l p f f.code 0 = b5l p f (f.code.drop y.1) y.2} => (⟨[.agg [.list 4 (fns p.funcs), .list 2 (gbs p.globals), .list 1 (lays p.layouts), .int .i64 p.main], .agg [.str f.name, .int .i64 f.params, .int .i64 f.regs, .list 5 (inss f.code)], .ptr [2] 4 0 0, .ptr [3] 4 0 0, .bool false, .undef, .int .i64 y.1.2, .int .i64 (y.1.1 : Int), .undef], [], hpL [([2], .cells 26 4 [[.list 4 (fns p.funcs), .list 2 (gbs p.globals), .list 1 (lays p.layouts), .int .i64 p.main]]), ([3], .cells 45 4 [[.str f.name, .int .i64 f.params, .int .i64 f.regs, .list 5 (inss f.code)]])], []⟩ : Fs)) (fun y => f.code.length - y.1.1) ⟨(0, 0), by simp⟩ (a4p [] (fun _ h => h) (by rfl) ?_ ?_ ?_) ?_; (focus (simp [*, SIMF, a0c, a0f, a0m, a1b, a1c, a0b, a0h, a0n, a1g, a1h, a0e, a0j, a0v, a1r, a1s, a0i, a0o, a0u, a1p, a1q, a0a, a0g, a0l, a1e, a1f, List.take_of_length_le, List.filter_append, *]; done)); (focus (simp [*, SIMF, a0c, a0f, a0m, a1b, a1c, a0b, a0h, a0n, a1g, a1h, a0e, a0j, a0v, a1r, a1s, a0i, a0o, a0u, a1p, a1q, a0a, a0g, a0l, a1e, a1f, List.take_of_length_le, List.filter_append]; done)); (focus (simp [*, SIMF, a0c, a0f, a0m, a1b, a1c, a0b, a0h, a0n, a1g, a1h, a0e, a0j, a0v, a1r, a1s, a0i, a0o, a0u, a1p, a1q, a0a, a0g, a0l, a1e, a1f, List.take_of_length_le, List.filter_append, *]; done)); rintro ⟨⟨i, e⟩, hi, hk⟩; (try dsimp only at hi hk); have hk2 := hk; rcases a1l hi with hlt | ⟨hlt, rfl⟩; rotate_left; rw [c7r, b5l] at hk2; rotate_left; focus (rw [d7s hlt] at hk2; have wi := wli hlt (by omega); by_cases h51 : f.code[i].op = 51; all_goals by_cases he : 0 < e; all_goals by_cases h50 : f.code[i].op = 50))
   | ((with_reducible refine a1j ?_); refine a1w (⟨(i + 1, W (e - 1)), by dsimp only; omega, by dsimp only; rw [hk2]; simp [*]⟩) (a4p [] (fun _ h => h) (by rfl) ?_ ?_ ?_) (by dsimp only; omega); (focus (simp [*, SIMF, a0c, a0f, a0m, a1b, a1c, a0b, a0h, a0n, a1g, a1h, a0e, a0j, a0v, a1r, a1s, a0i, a0o, a0u, a1p, a1q, a0a, a0g, a0l, a1e, a1f, List.take_of_length_le, List.filter_append, *]; done)); (focus (simp [*, SIMF, a0c, a0f, a0m, a1b, a1c, a0b, a0h, a0n, a1g, a1h, a0e, a0j, a0v, a1r, a1s, a0i, a0o, a0u, a1p, a1q, a0a, a0g, a0l, a1e, a1f, List.take_of_length_le, List.filter_append, *]; done)); (focus (simp [*, SIMF, a0c, a0f, a0m, a1b, a1c, a0b, a0h, a0n, a1g, a1h, a0e, a0j, a0v, a1r, a1s, a0i, a0o, a0u, a1p, a1q, a0a, a0g, a0l, a1e, a1f, List.take_of_length_le, List.filter_append, *]; done)))
   | ((with_reducible refine a1j ?_); refine a1w (⟨(i + 1, f.code[i].b), by dsimp only; omega, by dsimp only; rw [hk2]; simp [*]⟩) (a4p [] (fun _ h => h) (by rfl) ?_ ?_ ?_) (by dsimp only; omega); (focus (simp [*, SIMF, a0c, a0f, a0m, a1b, a1c, a0b, a0h, a0n, a1g, a1h, a0e, a0j, a0v, a1r, a1s, a0i, a0o, a0u, a1p, a1q, a0a, a0g, a0l, a1e, a1f, List.take_of_length_le, List.filter_append, *]; done)); (focus (simp [*, SIMF, a0c, a0f, a0m, a1b, a1c, a0b, a0h, a0n, a1g, a1h, a0e, a0j, a0v, a1r, a1s, a0i, a0o, a0u, a1p, a1q, a0a, a0g, a0l, a1e, a1f, List.take_of_length_le, List.filter_append, *]; done)); (focus (simp [*, SIMF, a0c, a0f, a0m, a1b, a1c, a0b, a0h, a0n, a1g, a1h, a0e, a0j, a0v, a1r, a1s, a0i, a0o, a0u, a1p, a1q, a0a, a0g, a0l, a1e, a1f, List.take_of_length_le, List.filter_append, *]; done)))
   | ((with_reducible refine a1j ?_); refine a1w (⟨(i + 1, e), by dsimp only; omega, by dsimp only; rw [hk2]; simp [*]⟩) (a4p [] (fun _ h => h) (by rfl) ?_ ?_ ?_) (by dsimp only; omega); (focus (simp [*, SIMF, a0c, a0f, a0m, a1b, a1c, a0b, a0h, a0n, a1g, a1h, a0e, a0j, a0v, a1r, a1s, a0i, a0o, a0u, a1p, a1q, a0a, a0g, a0l, a1e, a1f, List.take_of_length_le, List.filter_append, *]; done)); (focus (simp [*, SIMF, a0c, a0f, a0m, a1b, a1c, a0b, a0h, a0n, a1g, a1h, a0e, a0j, a0v, a1r, a1s, a0i, a0o, a0u, a1p, a1q, a0a, a0g, a0l, a1e, a1f, List.take_of_length_le, List.filter_append, *]; done)); (focus (simp [*, SIMF, a0c, a0f, a0m, a1b, a1c, a0b, a0h, a0n, a1g, a1h, a0e, a0j, a0v, a1r, a1s, a0i, a0o, a0u, a1p, a1q, a0a, a0g, a0l, a1e, a1f, List.take_of_length_le, List.filter_append, *]; done)))
   | with_reducible refine stp ?_
   | (with_reducible refine stpK ?_; intro K hK)
   | (with_reducible refine stpC ?_; intro T E hT hE)
   | (with_reducible refine stp2 ?_ ?_ <;> intro h)
   | with_reducible first | refine a0q rfl ?_ | refine a1n (c66 p f _ hc hf hg hl) (by simp [nls, nl, *, a0b, a0e, a0i, a0a, a0c]) ?_ | refine hpc (c66 p f _ hc hf hg hl) (by simp [nls, nl, *, a0b, a0e, a0i, a0a, a0c]) ?_ | refine a1n (c66e p f f.code[i] _ h51 hc hf hg hl) (by simp [nls, nl, *, a0b, a0e, a0i, a0a, a0c]) ?_ | refine hpc (c66e p f f.code[i] _ h51 hc hf hg hl) (by simp [nls, nl, *, a0b, a0e, a0i, a0a, a0c]) ?_ | refine a1n (c66e p f f.code[i] _ h50 hc hf hg hl) (by simp [nls, nl, *, a0b, a0e, a0i, a0a, a0c]) ?_ | refine hpc (c66e p f f.code[i] _ h50 hc hf hg hl) (by simp [nls, nl, *, a0b, a0e, a0i, a0a, a0c]) ?_ | refine a0t rfl (by decide) a0s ?_ | refine a0t rfl (by decide) (a0r (by simp [upd, noH, ext, a5v, a4o, *])) ?_ | refine a1v (by decide) (by kernel_rfl) ?_ | refine a0x (by decide) ?_
   | (with_reducible refine Kont.go hK ?_; clear hK K)
   | ((with_reducible first | refine KT.go hT ?_ | refine KT.go hE ?_); clear hT hE T E)
   | simp [*, -List.all_flatten, -List.all_eq_true, DEFO, -Bool.decide_and, eqV, a0f, a0h, a0j, a0o, a0g, a0c, a0b, a0e, a0i, a0a, a6x, a2r, a3c, b0s, a2x, a2j, Ins.row, FnD.row, Gb.row, a2i, Int.le_sub_one_iff, List.length_drop]
  all_goals first
   | (simp_all [fnR, FnD.nm, b2k, b1g, btw, W]; done)
   | (rw [<- Bool.not_eq_true]; intro hh; simp [fnR, FnD.nm, b2k, b1g, btw, *] at hh <;> omega)
   | (clear hk; simp_all [fnR, FnD.nm, b2k, b1g, btw, W]; done)
   | (clear hk; rw [<- Bool.not_eq_true]; intro hh; simp [fnR, FnD.nm, b2k, b1g, btw, *] at hh <;> omega)
   | (clear hk; have q1 : f.code.length <= 1000 := (by omega); have q2 : f.regs <= 64 := (by omega); have q3 : 0 <= f.params := (by omega); have q4 : f.params <= f.regs := (by omega); simp [fnR, FnD.nm, b2k, b1g, btw, W, *]; done)
   | trace_state
@[simp] theorem f9r : arE Try.prog 45 = Option.none := by kernel_rfl
@[simp] theorem f9g : arT Try.prog 36 = Option.none := by kernel_rfl
@[simp] theorem g2r : byT Try.prog 4 = (Option.some 1) := by kernel_rfl
@[simp] theorem f4p : fnOk Try.prog 10 = Bool.true := by kernel_rfl
@[simp] theorem f4o : fnOk Try.prog 11 = Bool.true := by kernel_rfl
@[simp] theorem f4n : fnOk Try.prog 12 = Bool.true := by kernel_rfl
@[simp] theorem f4i : fnOk Try.prog 17 = Bool.true := by kernel_rfl
@[simp] theorem f4g : fnOk Try.prog 19 = Bool.true := by kernel_rfl
@[simp] theorem f8t : fnOk Try.prog 6 = Bool.true := by kernel_rfl
@[simp] theorem f8s : fnOk Try.prog 7 = Bool.true := by kernel_rfl
@[simp] theorem f8r : fnOk Try.prog 8 = Bool.true := by kernel_rfl
@[simp] theorem e2a : a7i Try.prog 45 = (Option.some ((0, 1) :: ((1, 1) :: ((2, 1) :: ((3, 1) :: []))))) := by kernel_rfl
@[simp] theorem f7g : slT Try.prog 36 = (Option.some (4, 1)) := by kernel_rfl
@[simp] theorem f1x : strT Try.prog 36 = Bool.false := by kernel_rfl
def a6k (b : Bool) : List FV := [.bool b]
def a3t (L : List Bool) : List (List FV) := L.map a6k
theorem a1t (L : List Bool) : (a3t L).length = L.length := by simp [a3t]
theorem a9f {L : List Bool} {i : Nat} (h : i < (a3t L).length) : (a3t L)[i] = a6k (L[i]'(by rwa [a1t] at h)) := by simp [a3t]
theorem a5r {L : List Bool} {i : Nat} (h : i < L.length) : (a3t L)[i]? = some [.bool L[i]] := by simp [a3t, a6k, h]
theorem b1q (L : List Bool) (i : Nat) (b : Bool) (h : i < L.length) : (a3t L).modify i (fun r => FV.bool b :: r.tail) = a3t (L.set i b) := by
 refine List.ext_getElem (by simp [a3t]) fun j h1 h2 => ?_
 rw [List.getElem_modify]
 split
 . rename_i e
   subst e
   simp [a3t, a6k]
 . rename_i e
   simp [a3t, List.getElem_set_ne e]
theorem a1x (L : List Bool) : nlss (a3t L) = true := by
 induction L with
 | nil => rfl
 | cons r rs ih => simpa [a3t, nlss, nls, nl, a6k] using ih
theorem b2g (L : List Bool) : (a3t L).flatten.all FV.cellV = true := by
 induction L with
 | nil => rfl
 | cons r rs ih => simp [a3t, FV.cellV, a6k]
theorem a2w (n : Nat) (b : Bool) : List.replicate n [FV.bool b] = a3t (List.replicate n b) := by simp [a3t, a6k]
theorem e4t (l : List Bool) : mkL l [] = l := rfl
theorem d7n (l : List Bool) {s : List Int} {i : Nat} (h : i < s.length) : mkL l (s.take (i + 1)) = (mkL l (s.take i)).set s[i].toNat true := by
 rw [List.take_succ_eq_append_getElem h, b1z]
 rfl
theorem b6l {H : Heap} {l : FM.Loc} {o o' : FO} : upd (upd H l o) l o' = upd H l o' := by
 funext k
 by_cases e : k = l <;> simp [upd, e]
theorem e3e (L : List Bool) (s : List Int) {H : Heap} {lb : FM.Loc} (hs : ∀ o ∈ s, 0 <= o /\ o < (L.length : Int)) (hl : s.length <= 1000000000) : FC Try.prog Gl 19 [.sl lb 1 0 L.length, .list 1 (ints s)] (upd H lb (.cells 4 1 (a3t L))) (.tup []) (upd H lb (.cells 4 1 (a3t (mkL L s)))) := by
 refine c8h (res := []) 5 17 [] (fun d ix => 0 :: d :: ix) (fn := Try.f19) (by kernel_rfl) (by rfl) (by rfl) (by rfl) (by simp) (by decide) ?_
 repeat' first
  | ((with_reducible refine a1o ?_); refine a7w (fun y : {i : Nat // i <= s.length} => (⟨[.sl lb 1 0 L.length, .list 1 (ints s), .undef, .undef, .int .i64 (y.1 : Int)], [], upd H lb (.cells 4 1 (a3t (mkL L (s.take y.1)))), []⟩ : Fs)) (fun y => s.length - y.1) ⟨0, by simp⟩ (Wk.gk (c9g rfl (by simp [*]) (HLe.refl _))) ?_; rintro ⟨i, hi⟩; (try dsimp only at hi); rcases a1l hi with hlt | ⟨hlt, rfl⟩; have wi := wli hlt (by omega); obtain ⟨h0, h1⟩ := hs _ (List.getElem_mem hlt); have hml : (mkL L (s.take i)).length = L.length := b1f _ _; have ht : ((s[i]'hlt)).toNat < L.length := (by omega); have hbl := b1q (mkL L (s.take i)) ((s[i]'hlt)).toNat true (by omega); rw [<- d7n L hlt] at hbl; have hga : (a3t (mkL L (s.take i)))[((s[i]'hlt)).toNat]? = some [.bool ((mkL L (s.take i))[((s[i]'hlt)).toNat]'(by omega))] := a5r (by omega); rotate_left; have htl := List.take_length (l := s); rotate_left)
  | ((with_reducible refine a1j ?_); refine a1w (⟨i + 1, by omega⟩) (Wk.gk (c9g rfl (by simp [*]) (HLe.refl _))) (by dsimp only; omega))
  | with_reducible refine stp ?_
  | (with_reducible refine stpK ?_; intro K hK)
  | (with_reducible refine stpC ?_; intro T E hT hE)
  | (with_reducible refine stp2 ?_ ?_ <;> intro h)
  | with_reducible first | refine a0q rfl ?_ | refine a0t rfl (Nat.le_of_ble_eq_true rfl) a0s ?_ | refine a0t rfl (Nat.le_of_ble_eq_true rfl) (a0r (by simp [HPXB, ext, upd, *])) ?_ | refine a1v (by decide) (by kernel_rfl) ?_ | refine a0x (by decide) ?_
  | (with_reducible refine Kont.go hK ?_; clear hK K)
  | ((with_reducible first | refine KT.go hT ?_ | refine KT.go hE ?_); clear hT hE T E)
  | simp [*, -List.all_flatten, -List.all_eq_true, DEFB, LENB, upd, b6l, e4t, List.take_zero, d5p, a2u]
theorem e8v {L : List Bool} {s : List Int} {H : Heap} {lb : FM.Loc} (h : H lb = some (.cells 4 1 (a3t L))) (hs : ∀ o ∈ s, 0 <= o /\ o < (L.length : Int)) (hl : s.length <= 1000000000) : FC Try.prog Gl 19 [.sl lb 1 0 L.length, .list 1 (ints s)] H (.tup []) (upd H lb (.cells 4 1 (a3t (mkL L s)))) := by
 have := e3e (H := H) (lb := lb) L s hs hl
 rwa [c5e h] at this
theorem e3k {a : List Bool} (ha : a.length <= 1000000000) : PC Try.prog Gl 10 [.list 1 (a3t a), .list 1 (a3t a)] (.bool true) := by
 refine a3w (res := [.tmp 4]) 6 26 [] (fun d ix => 0 :: d :: ix) (fn := Try.f10) (by kernel_rfl) (by rfl) (by rfl) (by rfl) (by simp) (by decide) ?_
 repeat' first
  | ((with_reducible refine a1o ?_); refine a2h (σ := {i : Nat // i <= a.length}) (fun y => [(5, .int .i64 (y.1 : Int))]) [] (fun y => []) [] (fun y => []) (fun y => noH) (fun y => a.length - y.1) ⟨0, by simp⟩ (gk3 (j := 0) [] (Bs.pc _) ?_ ?_ ?_ ?_ ?_ ?_ ?_) ?_; (iterate 7 (focus (first | rfl | (simp [LPXB, *, SIMB, hdN, injB, a1t, a1x]; done)))); rintro ⟨i, hi⟩; simp only [lpS, LPXB]; (try dsimp only at hi); rcases a1l hi with hlt | ⟨hlt, rfl⟩; have wi := wli hlt (by omega); have hga := a5r hlt)
  | ((with_reducible refine a1j ?_); refine a1w (⟨i + 1, by omega⟩) (gk3 (j := 0) [] (Bs.pc _) ?_ ?_ ?_ ?_ ?_ ?_ ?_) ?_; (iterate 7 (focus (first | rfl | (simp [LPXB, *, SIMB, hdN, injB, a1t, a1x]; done)))); (focus (dsimp only; omega)))
  | with_reducible first | refine a0p (id := 6) 9 a0k (by kernel_rfl) fun K hK => ?_ | refine stp ?_
  | (with_reducible refine stpK ?_; intro K hK)
  | (with_reducible refine stpC ?_; intro T E hT hE)
  | (with_reducible refine stp2 ?_ ?_ <;> intro h)
  | with_reducible first | refine a0q rfl ?_ | refine a0t rfl (Nat.le_of_ble_eq_true rfl) a0s ?_ | refine a0t rfl (Nat.le_of_ble_eq_true rfl) (a0r (by simp [HPXB, ext, upd, *])) ?_ | refine a1v (by decide) (by kernel_rfl) ?_ | refine a0x (by decide) ?_
  | (with_reducible refine Kont.go hK ?_; clear hK K)
  | ((with_reducible first | refine KT.go hT ?_ | refine KT.go hE ?_); clear hT hE T E)
  | simp [*, -List.all_flatten, -List.all_eq_true, DEFB, LENB, asR, a1t, a9f, a6k, a1x]
end Go.He
