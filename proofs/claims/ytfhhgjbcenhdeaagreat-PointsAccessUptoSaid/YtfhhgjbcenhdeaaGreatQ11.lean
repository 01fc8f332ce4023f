/- Parts of the proof. -/
import Derived.Test.YtfhhgjbcenhdeaaGreatQ10
set_option linter.unusedSimpArgs false
set_option linter.unusedVariables false
namespace Go.Ge
open Go Go.FM Go.Gv Go.Proofs
set_option maxRecDepth 100000
set_option maxHeartbeats 40000000
theorem c113 (n : Int) : PC Tryz.prog Gl 79 [.int .i64 n] (.str (rlR n)) := by
 refine b0f (res := [.tmp 2]) 3 75 [3] (fun d ix => d :: ix) (fn := Tryz.f79) (by kernel_rfl) (by rfl) (by rfl) (by rfl) (by simp) (by decide) ?_
 repeat' first
  | with_reducible refine stp ?_
  | (with_reducible refine stpK ?_; intro K hK)
  | (with_reducible refine stpC ?_; intro T E hT hE)
  | (with_reducible refine stp2 ?_ ?_ <;> intro h)
  | with_reducible first | refine a0p rfl ?_ | refine a1r rfl (by decide) (by first | exact a0r | exact a0q (by simp [upd, noH, ext, a5z, a4o, *])) ?_ | refine a1s (by decide) (by kernel_rfl) ?_ | refine a0x (by decide) ?_
  | (with_reducible refine Kont.go hK ?_; clear hK K)
  | ((with_reducible first | refine KT.go hT ?_ | refine KT.go hE ?_); clear hT hE T E)
  | simp [*, -List.all_flatten, -List.all_eq_true, DEFO]
 all_goals first
  | (subst n; rfl)
  | (rw [d2h (by omega)])
  | trace_state
theorem d6d (n : Int) (_ : 1 <= n /\ n <= 52) : PC Tryz.prog Gl 79 [.int .i64 n] (.str (rlR n)) := c113 n
theorem c8m (n : Int) (h : ¬ (1 <= n /\ n <= 52)) : PC Tryz.prog Gl 79 [.int .i64 n] (.str ⟨⟨[]⟩⟩) := by
 rw [<- d2h h]; exact c113 n
theorem c114 (p : Pg) (f : FnD) (x : Ins) (role v : Int) (hc : f.code.length <= 2000000) (hf : p.funcs.length <= 2000000) (hg : p.globals.length <= 2000000) (hl : p.layouts.length <= 2000000) : PC Tryz.prog Gl 80 [.agg [.list 4 (fns p.funcs), .list 2 (gbs p.globals), .list 1 (lays p.layouts), .int .i64 p.main], .agg [.str f.name, .int .i64 f.params, .int .i64 f.regs, .list 5 (inss f.code)], .agg [.int .i64 x.op, .int .i64 x.a, .int .i64 x.b, .int .i64 x.c, .int .i64 x.d], .int .u8 role, .int .i64 v] (.bool (opR p f x role v)) := by
 refine b0f (res := [.tmp 10]) 11 177 [11] (fun d ix => d :: ix) (fn := Tryz.f80) (by kernel_rfl) (by rfl) (by rfl) (by rfl) (by simp) (by decide) ?_
 repeat' first
  | with_reducible refine stp ?_
  | (with_reducible refine stpK ?_; intro K hK)
  | (with_reducible refine stpC ?_; intro T E hT hE)
  | (with_reducible refine stp2 ?_ ?_ <;> intro h)
  | with_reducible first | refine a0u (id := 17) 28 a0m (by kernel_rfl) fun K hK => ?_ | refine a0p rfl ?_ | refine a1r rfl (by decide) (by first | exact a0r | exact a0q (by simp [upd, noH, ext, a5z, a4o, *])) ?_ | refine a1s (by decide) (by kernel_rfl) ?_ | refine a0x (by decide) ?_
  | (with_reducible refine Kont.go hK ?_; clear hK K)
  | ((with_reducible first | refine KT.go hT ?_ | refine KT.go hE ?_); clear hT hE T E)
  | simp [*, -List.all_flatten, -List.all_eq_true, DEFO, -Bool.decide_and, a0e, a0g, a0j, a0o, a0d, a0b, a0c, a0f, a0h, a0a, a5m, a2x, a3m, a9j, a3a, a2p, Ins.row, FnD.row, Gb.row, a2j, Int.le_sub_one_iff]
 all_goals first
  | (simp_all [opR, opAt, a6v]; done)
  | (rw [<- Bool.not_eq_true]; intro hh; simp [opR, *] at hh <;> omega)
  | trace_state
theorem e1u {n : Int} (h : 1 <= n /\ n <= 52) : (fIdx Tryz.prog 9 (.str (rlI n)) (.int .i64 0) = some (.int .u8 (rI n).1) /\ fIdx Tryz.prog 9 (.str (rlI n)) (.int .i64 1) = some (.int .u8 (rI n).2.1) /\ fIdx Tryz.prog 9 (.str (rlI n)) (.int .i64 2) = some (.int .u8 (rI n).2.2)) /\
 (fIdx Tryz.prog 9 (.str (rlR n)) (.int .i64 0) = some (.int .u8 (rR n).1) /\ fIdx Tryz.prog 9 (.str (rlR n)) (.int .i64 1) = some (.int .u8 (rR n).2.1) /\ fIdx Tryz.prog 9 (.str (rlR n)) (.int .i64 2) = some (.int .u8 (rR n).2.2)) /\ ((rlR n).data.toList == []) = false := by
 rcases Gv.c0r h with rfl | rfl | rfl | rfl | rfl | rfl | rfl | rfl | rfl | rfl | rfl | rfl | rfl | rfl | rfl | rfl | rfl | rfl | rfl | rfl | rfl | rfl | rfl | rfl | rfl | rfl | rfl | rfl | rfl | rfl | rfl | rfl | rfl | rfl | rfl | rfl | rfl | rfl | rfl | rfl | rfl | rfl | rfl | rfl | rfl | rfl | rfl | rfl | rfl | rfl | rfl | rfl
 all_goals (simp only [fIdx, e0i, rlI, rlR, rI, rR]; refine ⟨⟨by rfl, by rfl, by rfl⟩, ⟨by rfl, by rfl, by rfl⟩, by rfl⟩)
theorem g4e (a b c : Int) : fIdx Tryz.prog 117 (.agg [.int .i64 a, .int .i64 b, .int .i64 c]) (.int .i64 0) = some (.int .i64 a) := by simp [fIdx, c4y, b7v, c4v, c4w]
theorem g4d (a b c : Int) : fIdx Tryz.prog 117 (.agg [.int .i64 a, .int .i64 b, .int .i64 c]) (.int .i64 1) = some (.int .i64 b) := by simp [fIdx, c4y, b7v, c4v, c4w]
theorem g4c (a b c : Int) : fIdx Tryz.prog 117 (.agg [.int .i64 a, .int .i64 b, .int .i64 c]) (.int .i64 2) = some (.int .i64 c) := by simp [fIdx, c4y, b7v, c4v, c4w]
theorem g0y {i : Nat} (h : i <= 3) : i = 0 \/ i = 1 \/ i = 2 \/ i = 3 := by omega
theorem c8l (l : List Ins) : l.length = 0 \/ (¬ l.length = 0 /\ (1 : Int) <= (l.length : Int) /\ ∃ z : Ins, l[l.length - 1]? = some z /\ (inss l)[l.length - 1]? = some [.int .i64 z.op, .int .i64 z.a, .int .i64 z.b, .int .i64 z.c, .int .i64 z.d] /\ opAt l ((l.length : Int) - 1) = z.op) := by
 by_cases h : l.length = 0
 . exact .inl h
 . refine .inr ⟨h, by omega, l[l.length - 1]'(by omega), List.getElem?_eq_getElem _, ?_, ?_⟩
   . rw [List.getElem?_eq_getElem (by rw [a0g]; omega), a2x]; rfl
   . rw [c6s _ _ (by omega)]
     congr 2
     omega
theorem d5y (s : ByteArray) : ((s.data.toList == []) = true /\ s.data.toList = []) \/ ((s.data.toList == []) = false /\ ¬ s.data.toList = []) := by
 cases h : s.data.toList with
 | nil => left; simp
 | cons a b => right; simp
theorem a1t {i n : Nat} (h : i <= n) : i < n \/ (¬ i < n /\ i = n) := by omega
theorem d9c {p : Pg} {f : FnD} {i : Nat} {e : Int} (h : i < f.code.length) : b3w p f (f.code.drop i) e = (b0z p f f.code[i] && (if f.code[i].op = 51 then !decide (W (e - 1) < 0) && b3w p f (f.code.drop (i + 1)) (W (e - 1)) else if 0 < e then false else if f.code[i].op = 50 then !decide (f.code[i].b < 0) && b3w p f (f.code.drop (i + 1)) f.code[i].b else !decide (e < 0) && b3w p f (f.code.drop (i + 1)) e)) := by
 rw [List.drop_eq_getElem_cons h, b3w]
theorem d9b {p : Pg} {f : FnD} {i : Nat} {e : Int} (h : i < f.code.length) : b1n p f (f.code.drop i) e = (if decide (0 < e) = decide (f.code[i].op = 51) then b0c p f f.code[i] && b1n p f (f.code.drop (i + 1)) (if f.code[i].op = 50 then f.code[i].b else if 0 < e then W (e - 1) else e) else false) := by
 rw [List.drop_eq_getElem_cons h, b1n]
theorem c8i {α : Type} (l : List α) : l.drop l.length = [] := by simp
theorem e3r {α : Type} (l : List α) (q : α -> Bool) {i : Nat} (h : i < l.length) : (l.drop i).all q = (q l[i] && (l.drop (i + 1)).all q) := by
 rw [List.drop_eq_getElem_cons h, List.all_cons]
theorem d6g {α : Type} (l : List α) (q : α -> Bool) : (l.drop l.length).all q = true := by simp
theorem c37 (l : List (List Int)) (hl : l.length <= 2000000) (hb : ∀ x ∈ l, x.length <= 2000000) : PC Tryz.prog Gl 41 [.list 1 (lays l)] (.bool (layR l)) := by
 refine b0f (res := [.tmp 2]) 5 47 [] (fun d ix => d :: ix) (fn := Tryz.f41) (by kernel_rfl) (by rfl) (by rfl) (by rfl) (by simp) (by decide) ?_
 repeat' first
  | ((with_reducible refine a1u ?_); refine a7m (fun y : {i : Nat // i <= l.length /\ l.all layB = (l.drop i).all layB} => (⟨[.list 1 (lays l), .undef, .bool false, .int .i64 (y.1 : Int), .undef], [], hpL [], []⟩ : Fs)) (fun y => l.length - y.1) ⟨0, by simp⟩ (a4j [] (fun _ h => h) (by rfl) ?_ ?_ ?_) ?_; (focus (simp [*, SIMF, a0b, a0e, a0l, a1a, a0w, a0c, a0g, a0n, a1e, a1f, a0f, a0j, a0s, a1m, a1n, a0h, a0o, a0t, a1k, a1l, a0a, a0d, a0k, a1d, a1b, List.take_of_length_le, List.filter_append, *]; done)); (focus (simp [*, SIMF, a0b, a0e, a0l, a1a, a0w, a0c, a0g, a0n, a1e, a1f, a0f, a0j, a0s, a1m, a1n, a0h, a0o, a0t, a1k, a1l, a0a, a0d, a0k, a1d, a1b, List.take_of_length_le, List.filter_append]; done)); (focus (simp [*, SIMF, a0b, a0e, a0l, a1a, a0w, a0c, a0g, a0n, a1e, a1f, a0f, a0j, a0s, a1m, a1n, a0h, a0o, a0t, a1k, a1l, a0a, a0d, a0k, a1d, a1b, List.take_of_length_le, List.filter_append, *]; done)); rintro ⟨i, hi, hk⟩; (try dsimp only at hi hk); have hk2 := hk; rcases a1t hi with hlt | ⟨hlt, rfl⟩; rotate_left; rw [d6g] at hk2; rotate_left; rw [e3r _ _ hlt] at hk2; have wi := wli hlt (by omega); have hle := hb _ (List.getElem_mem hlt))
  | ((with_reducible refine a1u ?_); refine a7m (fun y : {k : Nat // k <= (l[i]'hlt).length /\ (l[i]'hlt).all a5i = ((l[i]'hlt).drop k).all a5i} => (⟨[.list 1 (lays l), .undef, .bool false, .int .i64 (i : Int), .int .i64 (y.1 : Int)], [], hpL [], []⟩ : Fs)) (fun y => (l[i]'hlt).length - y.1) ⟨0, by simp⟩ (a4j [] (fun _ h => h) (by rfl) ?_ ?_ ?_) ?_; (focus (simp [*, SIMF, a0b, a0e, a0l, a1a, a0w, a0c, a0g, a0n, a1e, a1f, a0f, a0j, a0s, a1m, a1n, a0h, a0o, a0t, a1k, a1l, a0a, a0d, a0k, a1d, a1b, List.take_of_length_le, List.filter_append, *]; done)); (focus (simp [*, SIMF, a0b, a0e, a0l, a1a, a0w, a0c, a0g, a0n, a1e, a1f, a0f, a0j, a0s, a1m, a1n, a0h, a0o, a0t, a1k, a1l, a0a, a0d, a0k, a1d, a1b, List.take_of_length_le, List.filter_append]; done)); (focus (simp [*, SIMF, a0b, a0e, a0l, a1a, a0w, a0c, a0g, a0n, a1e, a1f, a0f, a0j, a0s, a1m, a1n, a0h, a0o, a0t, a1k, a1l, a0a, a0d, a0k, a1d, a1b, List.take_of_length_le, List.filter_append, *]; done)); rintro ⟨k, hj, hm⟩; (try dsimp only at hj hm); have hm2 := hm; rcases a1t hj with hlk | ⟨hlk, rfl⟩; rotate_left; rw [d6g] at hm2; rotate_left; rw [e3r _ _ hlk] at hm2; have wk := wli hlk (by omega))
  | ((with_reducible refine a1p ?_); refine a2a (⟨i + 1, by omega, by rw [hk2, show layB l[i] = true from by rw [layB, hm2]; simp; omega, Bool.true_and]⟩) (a4j [] (fun _ h => h) (by rfl) ?_ ?_ ?_) (by dsimp only; omega); (focus (simp [*, SIMF, a0b, a0e, a0l, a1a, a0w, a0c, a0g, a0n, a1e, a1f, a0f, a0j, a0s, a1m, a1n, a0h, a0o, a0t, a1k, a1l, a0a, a0d, a0k, a1d, a1b, List.take_of_length_le, List.filter_append, *]; done)); (focus (simp [*, SIMF, a0b, a0e, a0l, a1a, a0w, a0c, a0g, a0n, a1e, a1f, a0f, a0j, a0s, a1m, a1n, a0h, a0o, a0t, a1k, a1l, a0a, a0d, a0k, a1d, a1b, List.take_of_length_le, List.filter_append, *]; done)); (focus (simp [*, SIMF, a0b, a0e, a0l, a1a, a0w, a0c, a0g, a0n, a1e, a1f, a0f, a0j, a0s, a1m, a1n, a0h, a0o, a0t, a1k, a1l, a0a, a0d, a0k, a1d, a1b, List.take_of_length_le, List.filter_append, *]; done)))
  | ((with_reducible refine a1p ?_); refine a2a (⟨k + 1, by omega, by rw [hm2]; simp [a5i, *]⟩) (a4j [] (fun _ h => h) (by rfl) ?_ ?_ ?_) (by dsimp only; omega); (focus (simp [*, SIMF, a0b, a0e, a0l, a1a, a0w, a0c, a0g, a0n, a1e, a1f, a0f, a0j, a0s, a1m, a1n, a0h, a0o, a0t, a1k, a1l, a0a, a0d, a0k, a1d, a1b, List.take_of_length_le, List.filter_append, *]; done)); (focus (simp [*, SIMF, a0b, a0e, a0l, a1a, a0w, a0c, a0g, a0n, a1e, a1f, a0f, a0j, a0s, a1m, a1n, a0h, a0o, a0t, a1k, a1l, a0a, a0d, a0k, a1d, a1b, List.take_of_length_le, List.filter_append, *]; done)); (focus (simp [*, SIMF, a0b, a0e, a0l, a1a, a0w, a0c, a0g, a0n, a1e, a1f, a0f, a0j, a0s, a1m, a1n, a0h, a0o, a0t, a1k, a1l, a0a, a0d, a0k, a1d, a1b, List.take_of_length_le, List.filter_append, *]; done)))
  | with_reducible refine stp ?_
  | (with_reducible refine stpK ?_; intro K hK)
  | (with_reducible refine stpC ?_; intro T E hT hE)
  | (with_reducible refine stp2 ?_ ?_ <;> intro h)
  | with_reducible first | refine a0p rfl ?_ | refine a1r rfl (by decide) (by first | exact a0r | exact a0q (by simp [upd, noH, ext, a5z, a4o, *])) ?_ | refine a1s (by decide) (by kernel_rfl) ?_ | refine a0x (by decide) ?_
  | (with_reducible refine Kont.go hK ?_; clear hK K)
  | ((with_reducible first | refine KT.go hT ?_ | refine KT.go hE ?_); clear hT hE T E)
  | simp [*, -List.all_flatten, -List.all_eq_true, DEFO, a0e, a0g, a0j, a0o, a0d, a0b, a0c, a0f, a0h, a0a, a5m, a2x, a3m, a9j, a3a, a2p, Ins.row, FnD.row, Gb.row, a2j, Int.le_sub_one_iff]
 all_goals first
  | (simp_all [layR, layB, a5i]; done)
  | (clear hk; simp_all [layR, layB, a5i]; done)
  | (clear hk; simp_all [layR, layB, a5i]; omega)
  | (rw [layR, hk2]; simp [layR, layB, a5i, *]; done)
  | (rw [layR, hk2]; simp [layR, layB, a5i, *] <;> omega)
  | (rw [layR, hk2, layB, hm2]; simp [a5i, *]; done)
  | (rw [layR, hk2, layB, show decide (l[i].length <= 64) = false from by simp; omega]; simp; done)
  | trace_state
end Go.Ge
