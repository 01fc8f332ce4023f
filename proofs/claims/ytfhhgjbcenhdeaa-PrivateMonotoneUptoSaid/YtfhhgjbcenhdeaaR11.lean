/- Parts of the proof. -/
import Derived.Test.YtfhhgjbcenhdeaaR10
set_option linter.unusedSimpArgs false
set_option linter.unusedVariables false
namespace Go.He
open Go Go.FM Go.Gv Go.Proofs
set_option maxRecDepth 100000
set_option maxHeartbeats 40000000
theorem c113 (n : Int) : PC Try.prog Gl 51 [.int .i64 n] (.str (rlR n)) := by
 refine b0o (res := [.tmp 2]) 3 75 [3] (fun d ix => d :: ix) (fn := Try.f51) (by kernel_rfl) (by rfl) (by rfl) (by rfl) (by simp) (by decide) ?_
 repeat' first
  | with_reducible refine stp ?_
  | (with_reducible refine stpK ?_; intro K hK)
  | (with_reducible refine stpC ?_; intro T E hT hE)
  | (with_reducible refine stp2 ?_ ?_ <;> intro h)
  | with_reducible first | refine a0q rfl ?_ | refine a0t rfl (by decide) a0s ?_ | refine a0t rfl (by decide) (a0r (by simp [upd, noH, ext, a5v, a4o, *])) ?_ | refine a1v (by decide) (by kernel_rfl) ?_ | refine a0x (by decide) ?_
  | (with_reducible refine Kont.go hK ?_; clear hK K)
  | ((with_reducible first | refine KT.go hT ?_ | refine KT.go hE ?_); clear hT hE T E)
  | simp [*, -List.all_flatten, -List.all_eq_true, DEFO]
 all_goals first
  | (subst n; rfl)
  | (rw [d1p (by omega)])
  | trace_state
theorem d4y (n : Int) (_ : 1 <= n /\ n <= 52) : PC Try.prog Gl 51 [.int .i64 n] (.str (rlR n)) := c113 n
theorem c7w (n : Int) (h : ¬ (1 <= n /\ n <= 52)) : PC Try.prog Gl 51 [.int .i64 n] (.str ⟨⟨[]⟩⟩) := by
 rw [<- d1p h]; exact c113 n
theorem c114 (p : Pg) (f : FnD) (x : Ins) (role v : Int) (hc : f.code.length <= 2000000) (hf : p.funcs.length <= 2000000) (hg : p.globals.length <= 2000000) (hl : p.layouts.length <= 2000000) : PC Try.prog Gl 52 [.agg [.list 4 (fns p.funcs), .list 2 (gbs p.globals), .list 1 (lays p.layouts), .int .i64 p.main], .agg [.str f.name, .int .i64 f.params, .int .i64 f.regs, .list 5 (inss f.code)], .agg [.int .i64 x.op, .int .i64 x.a, .int .i64 x.b, .int .i64 x.c, .int .i64 x.d], .int .u8 role, .int .i64 v] (.bool (opR p f x role v)) := by
 refine b0o (res := [.tmp 10]) 11 177 [11] (fun d ix => d :: ix) (fn := Try.f52) (by kernel_rfl) (by rfl) (by rfl) (by rfl) (by simp) (by decide) ?_
 repeat' first
  | with_reducible refine stp ?_
  | (with_reducible refine stpK ?_; intro K hK)
  | (with_reducible refine stpC ?_; intro T E hT hE)
  | (with_reducible refine stp2 ?_ ?_ <;> intro h)
  | with_reducible first | refine a0p (id := 17) 28 a0k (by kernel_rfl) fun K hK => ?_ | refine a0q rfl ?_ | refine a0t rfl (by decide) a0s ?_ | refine a0t rfl (by decide) (a0r (by simp [upd, noH, ext, a5v, a4o, *])) ?_ | refine a1v (by decide) (by kernel_rfl) ?_ | refine a0x (by decide) ?_
  | (with_reducible refine Kont.go hK ?_; clear hK K)
  | ((with_reducible first | refine KT.go hT ?_ | refine KT.go hE ?_); clear hT hE T E)
  | simp [*, -List.all_flatten, -List.all_eq_true, DEFO, -Bool.decide_and, a0f, a0h, a0j, a0o, a0g, a0c, a0b, a0e, a0i, a0a, a6x, a2r, a3c, b0s, a2x, a2j, Ins.row, FnD.row, Gb.row, a2i, Int.le_sub_one_iff]
 all_goals first
  | (simp_all [opR, opAt, a5f]; done)
  | (rw [<- Bool.not_eq_true]; intro hh; simp [opR, *] at hh <;> omega)
  | trace_state
theorem e0l {n : Int} (h : 1 <= n /\ n <= 52) : (fIdx Try.prog 9 (.str (rlI n)) (.int .i64 0) = some (.int .u8 (rI n).1) /\ fIdx Try.prog 9 (.str (rlI n)) (.int .i64 1) = some (.int .u8 (rI n).2.1) /\ fIdx Try.prog 9 (.str (rlI n)) (.int .i64 2) = some (.int .u8 (rI n).2.2)) /\
 (fIdx Try.prog 9 (.str (rlR n)) (.int .i64 0) = some (.int .u8 (rR n).1) /\ fIdx Try.prog 9 (.str (rlR n)) (.int .i64 1) = some (.int .u8 (rR n).2.1) /\ fIdx Try.prog 9 (.str (rlR n)) (.int .i64 2) = some (.int .u8 (rR n).2.2)) /\ ((rlR n).data.toList == []) = false := by
 rcases Gv.c0e h with rfl | rfl | rfl | rfl | rfl | rfl | rfl | rfl | rfl | rfl | rfl | rfl | rfl | rfl | rfl | rfl | rfl | rfl | rfl | rfl | rfl | rfl | rfl | rfl | rfl | rfl | rfl | rfl | rfl | rfl | rfl | rfl | rfl | rfl | rfl | rfl | rfl | rfl | rfl | rfl | rfl | rfl | rfl | rfl | rfl | rfl | rfl | rfl | rfl | rfl | rfl | rfl
 all_goals (simp only [fIdx, d9a, rlI, rlR, rI, rR]; refine ⟨⟨by rfl, by rfl, by rfl⟩, ⟨by rfl, by rfl, by rfl⟩, by rfl⟩)
theorem g3n (a b c : Int) : fIdx Try.prog 106 (.agg [.int .i64 a, .int .i64 b, .int .i64 c]) (.int .i64 0) = some (.int .i64 a) := by simp [fIdx, c4l, b7t, c4i, c4j]
theorem g3m (a b c : Int) : fIdx Try.prog 106 (.agg [.int .i64 a, .int .i64 b, .int .i64 c]) (.int .i64 1) = some (.int .i64 b) := by simp [fIdx, c4l, b7t, c4i, c4j]
theorem g3l (a b c : Int) : fIdx Try.prog 106 (.agg [.int .i64 a, .int .i64 b, .int .i64 c]) (.int .i64 2) = some (.int .i64 c) := by simp [fIdx, c4l, b7t, c4i, c4j]
theorem g0a {i : Nat} (h : i <= 3) : i = 0 \/ i = 1 \/ i = 2 \/ i = 3 := by omega
theorem c7u (l : List Ins) : l.length = 0 \/ (¬ l.length = 0 /\ (1 : Int) <= (l.length : Int) /\ ∃ z : Ins, l[l.length - 1]? = some z /\ (inss l)[l.length - 1]? = some [.int .i64 z.op, .int .i64 z.a, .int .i64 z.b, .int .i64 z.c, .int .i64 z.d] /\ opAt l ((l.length : Int) - 1) = z.op) := by
 by_cases h : l.length = 0
 . exact .inl h
 . refine .inr ⟨h, by omega, l[l.length - 1]'(by omega), List.getElem?_eq_getElem _, ?_, ?_⟩
   . rw [List.getElem?_eq_getElem (by rw [a0h]; omega), a2r]; rfl
   . rw [c6h _ _ (by omega)]
     congr 2
     omega
theorem d4t (s : ByteArray) : ((s.data.toList == []) = true /\ s.data.toList = []) \/ ((s.data.toList == []) = false /\ ¬ s.data.toList = []) := by
 cases h : s.data.toList with
 | nil => left; simp
 | cons a b => right; simp
theorem a1l {i n : Nat} (h : i <= n) : i < n \/ (¬ i < n /\ i = n) := by omega
theorem d7t {p : Pg} {f : FnD} {i : Nat} {e : Int} (h : i < f.code.length) : b3r p f (f.code.drop i) e = (b0r p f f.code[i] && (if f.code[i].op = 51 then !decide (W (e - 1) < 0) && b3r p f (f.code.drop (i + 1)) (W (e - 1)) else if 0 < e then false else if f.code[i].op = 50 then !decide (f.code[i].b < 0) && b3r p f (f.code.drop (i + 1)) f.code[i].b else !decide (e < 0) && b3r p f (f.code.drop (i + 1)) e)) := by
 rw [List.drop_eq_getElem_cons h, b3r]
theorem d7s {p : Pg} {f : FnD} {i : Nat} {e : Int} (h : i < f.code.length) : b5l p f (f.code.drop i) e = (if decide (0 < e) = decide (f.code[i].op = 51) then b0q p f f.code[i] && b5l p f (f.code.drop (i + 1)) (if f.code[i].op = 50 then f.code[i].b else if 0 < e then W (e - 1) else e) else false) := by
 rw [List.drop_eq_getElem_cons h, b5l]
theorem c7r {α : Type} (l : List α) : l.drop l.length = [] := by simp
theorem e2m {α : Type} (l : List α) (q : α -> Bool) {i : Nat} (h : i < l.length) : (l.drop i).all q = (q l[i] && (l.drop (i + 1)).all q) := by
 rw [List.drop_eq_getElem_cons h, List.all_cons]
theorem d5e {α : Type} (l : List α) (q : α -> Bool) : (l.drop l.length).all q = true := by simp
theorem c37 (l : List (List Int)) (hl : l.length <= 2000000) (hb : ∀ x ∈ l, x.length <= 2000000) : PC Try.prog Gl 24 [.list 1 (lays l)] (.bool (layR l)) := by
 refine b0o (res := [.tmp 2]) 5 47 [] (fun d ix => d :: ix) (fn := Try.f24) (by kernel_rfl) (by rfl) (by rfl) (by rfl) (by simp) (by decide) ?_
 repeat' first
  | ((with_reducible refine a1o ?_); refine a7w (fun y : {i : Nat // i <= l.length /\ l.all layB = (l.drop i).all layB} => (⟨[.list 1 (lays l), .undef, .bool false, .int .i64 (y.1 : Int), .undef], [], hpL [], []⟩ : Fs)) (fun y => l.length - y.1) ⟨0, by simp⟩ (a4p [] (fun _ h => h) (by rfl) ?_ ?_ ?_) ?_; (focus (simp [*, SIMF, a0c, a0f, a0m, a1b, a1c, a0b, a0h, a0n, a1g, a1h, a0e, a0j, a0v, a1r, a1s, a0i, a0o, a0u, a1p, a1q, a0a, a0g, a0l, a1e, a1f, List.take_of_length_le, List.filter_append, *]; done)); (focus (simp [*, SIMF, a0c, a0f, a0m, a1b, a1c, a0b, a0h, a0n, a1g, a1h, a0e, a0j, a0v, a1r, a1s, a0i, a0o, a0u, a1p, a1q, a0a, a0g, a0l, a1e, a1f, List.take_of_length_le, List.filter_append]; done)); (focus (simp [*, SIMF, a0c, a0f, a0m, a1b, a1c, a0b, a0h, a0n, a1g, a1h, a0e, a0j, a0v, a1r, a1s, a0i, a0o, a0u, a1p, a1q, a0a, a0g, a0l, a1e, a1f, List.take_of_length_le, List.filter_append, *]; done)); rintro ⟨i, hi, hk⟩; (try dsimp only at hi hk); have hk2 := hk; rcases a1l hi with hlt | ⟨hlt, rfl⟩; rotate_left; rw [d5e] at hk2; rotate_left; rw [e2m _ _ hlt] at hk2; have wi := wli hlt (by omega); have hle := hb _ (List.getElem_mem hlt))
  | ((with_reducible refine a1o ?_); refine a7w (fun y : {k : Nat // k <= (l[i]'hlt).length /\ (l[i]'hlt).all a5b = ((l[i]'hlt).drop k).all a5b} => (⟨[.list 1 (lays l), .undef, .bool false, .int .i64 (i : Int), .int .i64 (y.1 : Int)], [], hpL [], []⟩ : Fs)) (fun y => (l[i]'hlt).length - y.1) ⟨0, by simp⟩ (a4p [] (fun _ h => h) (by rfl) ?_ ?_ ?_) ?_; (focus (simp [*, SIMF, a0c, a0f, a0m, a1b, a1c, a0b, a0h, a0n, a1g, a1h, a0e, a0j, a0v, a1r, a1s, a0i, a0o, a0u, a1p, a1q, a0a, a0g, a0l, a1e, a1f, List.take_of_length_le, List.filter_append, *]; done)); (focus (simp [*, SIMF, a0c, a0f, a0m, a1b, a1c, a0b, a0h, a0n, a1g, a1h, a0e, a0j, a0v, a1r, a1s, a0i, a0o, a0u, a1p, a1q, a0a, a0g, a0l, a1e, a1f, List.take_of_length_le, List.filter_append]; done)); (focus (simp [*, SIMF, a0c, a0f, a0m, a1b, a1c, a0b, a0h, a0n, a1g, a1h, a0e, a0j, a0v, a1r, a1s, a0i, a0o, a0u, a1p, a1q, a0a, a0g, a0l, a1e, a1f, List.take_of_length_le, List.filter_append, *]; done)); rintro ⟨k, hj, hm⟩; (try dsimp only at hj hm); have hm2 := hm; rcases a1l hj with hlk | ⟨hlk, rfl⟩; rotate_left; rw [d5e] at hm2; rotate_left; rw [e2m _ _ hlk] at hm2; have wk := wli hlk (by omega))
  | ((with_reducible refine a1j ?_); refine a1w (⟨i + 1, by omega, by rw [hk2, show layB l[i] = true from by rw [layB, hm2]; simp; omega, Bool.true_and]⟩) (a4p [] (fun _ h => h) (by rfl) ?_ ?_ ?_) (by dsimp only; omega); (focus (simp [*, SIMF, a0c, a0f, a0m, a1b, a1c, a0b, a0h, a0n, a1g, a1h, a0e, a0j, a0v, a1r, a1s, a0i, a0o, a0u, a1p, a1q, a0a, a0g, a0l, a1e, a1f, List.take_of_length_le, List.filter_append, *]; done)); (focus (simp [*, SIMF, a0c, a0f, a0m, a1b, a1c, a0b, a0h, a0n, a1g, a1h, a0e, a0j, a0v, a1r, a1s, a0i, a0o, a0u, a1p, a1q, a0a, a0g, a0l, a1e, a1f, List.take_of_length_le, List.filter_append, *]; done)); (focus (simp [*, SIMF, a0c, a0f, a0m, a1b, a1c, a0b, a0h, a0n, a1g, a1h, a0e, a0j, a0v, a1r, a1s, a0i, a0o, a0u, a1p, a1q, a0a, a0g, a0l, a1e, a1f, List.take_of_length_le, List.filter_append, *]; done)))
  | ((with_reducible refine a1j ?_); refine a1w (⟨k + 1, by omega, by rw [hm2]; simp [a5b, *]⟩) (a4p [] (fun _ h => h) (by rfl) ?_ ?_ ?_) (by dsimp only; omega); (focus (simp [*, SIMF, a0c, a0f, a0m, a1b, a1c, a0b, a0h, a0n, a1g, a1h, a0e, a0j, a0v, a1r, a1s, a0i, a0o, a0u, a1p, a1q, a0a, a0g, a0l, a1e, a1f, List.take_of_length_le, List.filter_append, *]; done)); (focus (simp [*, SIMF, a0c, a0f, a0m, a1b, a1c, a0b, a0h, a0n, a1g, a1h, a0e, a0j, a0v, a1r, a1s, a0i, a0o, a0u, a1p, a1q, a0a, a0g, a0l, a1e, a1f, List.take_of_length_le, List.filter_append, *]; done)); (focus (simp [*, SIMF, a0c, a0f, a0m, a1b, a1c, a0b, a0h, a0n, a1g, a1h, a0e, a0j, a0v, a1r, a1s, a0i, a0o, a0u, a1p, a1q, a0a, a0g, a0l, a1e, a1f, List.take_of_length_le, List.filter_append, *]; done)))
  | with_reducible refine stp ?_
  | (with_reducible refine stpK ?_; intro K hK)
  | (with_reducible refine stpC ?_; intro T E hT hE)
  | (with_reducible refine stp2 ?_ ?_ <;> intro h)
  | with_reducible first | refine a0q rfl ?_ | refine a0t rfl (by decide) a0s ?_ | refine a0t rfl (by decide) (a0r (by simp [upd, noH, ext, a5v, a4o, *])) ?_ | refine a1v (by decide) (by kernel_rfl) ?_ | refine a0x (by decide) ?_
  | (with_reducible refine Kont.go hK ?_; clear hK K)
  | ((with_reducible first | refine KT.go hT ?_ | refine KT.go hE ?_); clear hT hE T E)
  | simp [*, -List.all_flatten, -List.all_eq_true, DEFO, a0f, a0h, a0j, a0o, a0g, a0c, a0b, a0e, a0i, a0a, a6x, a2r, a3c, b0s, a2x, a2j, Ins.row, FnD.row, Gb.row, a2i, Int.le_sub_one_iff]
 all_goals first
  | (simp_all [layR, layB, a5b]; done)
  | (clear hk; simp_all [layR, layB, a5b]; done)
  | (clear hk; simp_all [layR, layB, a5b]; omega)
  | (rw [layR, hk2]; simp [layR, layB, a5b, *]; done)
  | (rw [layR, hk2]; simp [layR, layB, a5b, *] <;> omega)
  | (rw [layR, hk2, layB, hm2]; simp [a5b, *]; done)
  | (rw [layR, hk2, layB, show decide (l[i].length <= 64) = false from by simp; omega]; simp; done)
  | trace_state
end Go.He
