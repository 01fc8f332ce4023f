/- Parts of the proof. -/
import Derived.Test.YtfhhgjbcenhdeaaGreatDoorH9
import Derived.Test.YtfhhgjbcenhdeaaGreatDoorH10
set_option linter.unusedSimpArgs false
set_option linter.unusedVariables false
namespace Go.Je
open Go Go.FM Go.Gv Go.Proofs
set_option maxRecDepth 100000
set_option maxHeartbeats 40000000
theorem c114 (p : Pg) (f : FnD) (x : Ins) (role v : Int) (hc : f.code.length <= 2000000) (hf : p.funcs.length <= 2000000) (hg : p.globals.length <= 2000000) (hl : p.layouts.length <= 2000000) : PC Tryz.prog Gl 139 [.agg [.list 4 (fns p.funcs), .list 2 (gbs p.globals), .list 1 (lays p.layouts), .int .i64 p.main], .agg [.str f.name, .int .i64 f.params, .int .i64 f.regs, .list 5 (inss f.code)], .agg [.int .i64 x.op, .int .i64 x.a, .int .i64 x.b, .int .i64 x.c, .int .i64 x.d], .int .u8 role, .int .i64 v] (.bool (opR p f x role v)) := by
 refine a9p (res := [.tmp 10]) 11 177 [11] (fun d ix => d :: ix) (fn := Tryz.f139) (by kernel_rfl) (by rfl) (by rfl) (by rfl) (by simp) (by decide) ?_
 repeat' first
  | with_reducible first | refine stp ?_ | refine stpK ?_; intro K hK | refine stpC ?_; intro T E hT hE | refine stp2 ?_ ?_ <;> intro h | refine a3m (id := 17) 28 a1v (by kernel_rfl) fun K hK => ?_ | refine a0x rfl ?_ | refine a1a rfl (by decide) a0z ?_ | refine a1a rfl (by decide) (a0y (by simp [upd, noH, ext, a5r, a4l, *])) ?_ | refine a2i (by decide) (by kernel_rfl) ?_ | refine a1j (by decide) ?_ | refine Kont.go hK ?_; clear hK K | refine KT.go hT ?_; clear hT hE T E | refine KT.go hE ?_; clear hT hE T E
  | simp [*, -List.all_flatten, -List.all_eq_true, DEFO, -Bool.decide_and, a0e, a0f, a0j, a0p, a0i, a0c, a0b, a0d, a0g, a0a, a5t, a3i, a3t, a9t, a6g, a2r, Ins.row, FnD.row, Gb.row, a4h, Int.le_sub_one_iff]
 all_goals first
  | (simp_all [opR, opAt, a5j]; done)
  | (rw [<- Bool.not_eq_true]; intro hh; simp [opR, *] at hh <;> omega)
  | trace_state
theorem c9z {n : Int} (h : 1 <= n /\ n <= 52) : (fIdx Tryz.prog 9 (.str (rlI n)) (.int .i64 0) = some (.int .u8 (rI n).1) /\ fIdx Tryz.prog 9 (.str (rlI n)) (.int .i64 1) = some (.int .u8 (rI n).2.1) /\ fIdx Tryz.prog 9 (.str (rlI n)) (.int .i64 2) = some (.int .u8 (rI n).2.2)) /\
 (fIdx Tryz.prog 9 (.str (rlR n)) (.int .i64 0) = some (.int .u8 (rR n).1) /\ fIdx Tryz.prog 9 (.str (rlR n)) (.int .i64 1) = some (.int .u8 (rR n).2.1) /\ fIdx Tryz.prog 9 (.str (rlR n)) (.int .i64 2) = some (.int .u8 (rR n).2.2)) /\ ((rlR n).data.toList == []) = false := by
 rcases Gv.b4t h with rfl | rfl | rfl | rfl | rfl | rfl | rfl | rfl | rfl | rfl | rfl | rfl | rfl | rfl | rfl | rfl | rfl | rfl | rfl | rfl | rfl | rfl | rfl | rfl | rfl | rfl | rfl | rfl | rfl | rfl | rfl | rfl | rfl | rfl | rfl | rfl | rfl | rfl | rfl | rfl | rfl | rfl | rfl | rfl | rfl | rfl | rfl | rfl | rfl | rfl | rfl | rfl
 all_goals (simp only [fIdx, d9o, rlI, rlR, rI, rR]; refine ⟨⟨by rfl, by rfl, by rfl⟩, ⟨by rfl, by rfl, by rfl⟩, by rfl⟩)
theorem g2l (a b c : Int) : fIdx Tryz.prog 130 (.agg [.int .i64 a, .int .i64 b, .int .i64 c]) (.int .i64 0) = some (.int .i64 a) := by simp [fIdx, c4d, b6t, c4a, c4b]
theorem g2k (a b c : Int) : fIdx Tryz.prog 130 (.agg [.int .i64 a, .int .i64 b, .int .i64 c]) (.int .i64 1) = some (.int .i64 b) := by simp [fIdx, c4d, b6t, c4a, c4b]
theorem g2j (a b c : Int) : fIdx Tryz.prog 130 (.agg [.int .i64 a, .int .i64 b, .int .i64 c]) (.int .i64 2) = some (.int .i64 c) := by simp [fIdx, c4d, b6t, c4a, c4b]
theorem g6z {i : Nat} (h : i <= 3) : i = 0 \/ i = 1 \/ i = 2 \/ i = 3 := by omega
theorem c34 (k : Int) : PC Tryz.prog Gl 75 [.int .i64 k] (.bool (a4x k)) := by
 refine a9p (res := [.tmp 2]) 3 9 [] (fun d ix => d :: ix) (fn := Tryz.f75) (by kernel_rfl) (by rfl) (by rfl) (by rfl) (by simp) (by decide) ?_
 repeat' first
  | with_reducible first | refine stp ?_ | refine stpK ?_; intro K hK | refine stpC ?_; intro T E hT hE | refine stp2 ?_ ?_ <;> intro h | refine a0x rfl ?_ | refine a1a rfl (by decide) a0z ?_ | refine a1a rfl (by decide) (a0y (by simp [upd, noH, ext, a5r, a4l, *])) ?_ | refine a2i (by decide) (by kernel_rfl) ?_ | refine a1j (by decide) ?_ | refine Kont.go hK ?_; clear hK K | refine KT.go hT ?_; clear hT hE T E | refine KT.go hE ?_; clear hT hE T E
  | simp [*, -List.all_flatten, -List.all_eq_true, DEFO]
 all_goals (simp_all [a4x])
theorem c109 (p : Pg) (f : FnD) (x : Ins) (role v : Int) (hc : f.code.length <= 2000000) (hf : p.funcs.length <= 2000000) (hg : p.globals.length <= 2000000) (hl : p.layouts.length <= 2000000) : PC Tryz.prog Gl 166 [.agg [.list 4 (fns p.funcs), .list 2 (gbs p.globals), .list 1 (lays p.layouts), .int .i64 p.main, .str f.name, .int .i64 f.params, .int .i64 f.regs, .list 5 (inss f.code)], .agg [.int .i64 x.op, .int .i64 x.a, .int .i64 x.b, .int .i64 x.c, .int .i64 x.d], .int .u8 role, .int .i64 v] (.bool (opI p f x role v)) := by
 have w1 := wl f.code.length (by omega); have w2 := wl p.funcs.length (by omega); have w3 := wl p.globals.length (by omega); have w4 := wl p.layouts.length (by omega)
 refine a9p (res := [.tmp 8]) 9 181 [9] (fun d ix => d :: ix) (fn := Tryz.f166) (by kernel_rfl) (by rfl) (by rfl) (by rfl) (by simp) (by decide) ?_
 repeat' first
  | with_reducible first | refine stp ?_ | refine stpK ?_; intro K hK | refine stpC ?_; intro T E hT hE | refine stp2 ?_ ?_ <;> intro h | refine a3m (id := 15) 31 a1v (by kernel_rfl) fun K hK => ?_ | refine a0x rfl ?_ | refine a2n (c31 _ _ _) (by simp [nls, nl, *, a0b, a0d, a0g, a0a, a0c]) ?_ | refine hpc (c31 _ _ _) (by simp [nls, nl, *, a0b, a0d, a0g, a0a, a0c]) ?_ | refine a1a rfl (by decide) a0z ?_ | refine a1a rfl (by decide) (a0y (by simp [upd, noH, ext, a5r, a4l, *])) ?_ | refine a2i (by decide) (by kernel_rfl) ?_ | refine a1j (by decide) ?_ | refine Kont.go hK ?_; clear hK K | refine KT.go hT ?_; clear hT hE T E | refine KT.go hE ?_; clear hT hE T E
  | simp [*, -List.all_flatten, -List.all_eq_true, DEFO, -Bool.decide_and, a0e, a0f, a0j, a0p, a0i, a0c, a0b, a0d, a0g, a0a, a5t, a3i, a3t, a9t, a6g, a2r, Ins.row, FnD.row, Gb.row, a4h, Int.le_sub_one_iff]
 all_goals first
  | (simp_all [opI, btw, opAt, a5j, Int.le_sub_one_iff]; done)
  | (subst_vars; rw [<- Bool.not_eq_true]; intro hh; simp [opI, btw, W, *] at hh <;> omega)
  | (rw [<- Bool.not_eq_true]; intro hh; simp [opI, btw, W, *] at hh <;> omega)
  | trace_state
theorem c7k (l : List Ins) : l.length = 0 \/ (¬ l.length = 0 /\ (1 : Int) <= (l.length : Int) /\ ∃ z : Ins, l[l.length - 1]? = some z /\ (inss l)[l.length - 1]? = some [.int .i64 z.op, .int .i64 z.a, .int .i64 z.b, .int .i64 z.c, .int .i64 z.d] /\ opAt l ((l.length : Int) - 1) = z.op) := by
 by_cases h : l.length = 0
 . exact .inl h
 . refine .inr ⟨h, by omega, l[l.length - 1]'(by omega), List.getElem?_eq_getElem _, ?_, ?_⟩
   . rw [List.getElem?_eq_getElem (by rw [a0f]; omega), a3i]; rfl
   . rw [b0s _ _ (by omega)]
     congr 2
     omega
theorem d5h (s : ByteArray) : ((s.data.toList == []) = true /\ s.data.toList = []) \/ ((s.data.toList == []) = false /\ ¬ s.data.toList = []) := by
 cases h : s.data.toList with
 | nil => left; simp
 | cons a b => right; simp
theorem a1y {i n : Nat} (h : i <= n) : i < n \/ (¬ i < n /\ i = n) := by omega
theorem d8j {p : Pg} {f : FnD} {i : Nat} {e : Int} (h : i < f.code.length) : b2o p f (f.code.drop i) e = (a9s p f f.code[i] && (if f.code[i].op = 51 then !decide (W (e - 1) < 0) && b2o p f (f.code.drop (i + 1)) (W (e - 1)) else if 0 < e then false else if f.code[i].op = 50 then !decide (f.code[i].b < 0) && b2o p f (f.code.drop (i + 1)) f.code[i].b else !decide (e < 0) && b2o p f (f.code.drop (i + 1)) e)) := by
 rw [List.drop_eq_getElem_cons h, b2o]
theorem d8i {p : Pg} {f : FnD} {i : Nat} {e : Int} (h : i < f.code.length) : a9j p f (f.code.drop i) e = (if decide (0 < e) = decide (f.code[i].op = 51) then a7l p f f.code[i] && a9j p f (f.code.drop (i + 1)) (if f.code[i].op = 50 then f.code[i].b else if 0 < e then W (e - 1) else e) else false) := by
 rw [List.drop_eq_getElem_cons h, a9j]
theorem c7g {α : Type} (l : List α) : l.drop l.length = [] := by simp
theorem e3g {α : Type} (l : List α) (q : α -> Bool) {i : Nat} (h : i < l.length) : (l.drop i).all q = (q l[i] && (l.drop (i + 1)).all q) := by
 rw [List.drop_eq_getElem_cons h, List.all_cons]
theorem d5x {α : Type} (l : List α) (q : α -> Bool) : (l.drop l.length).all q = true := by simp
theorem c37 (l : List (List Int)) (hl : l.length <= 2000000) (hb : ∀ x ∈ l, x.length <= 2000000) : PC Tryz.prog Gl 45 [.list 1 (lays l)] (.bool (layR l)) := by
 refine a9p (res := [.tmp 2]) 5 47 [] (fun d ix => d :: ix) (fn := Tryz.f45) (by kernel_rfl) (by rfl) (by rfl) (by rfl) (by simp) (by decide) ?_
 repeat' first
  | ((with_reducible refine a2c ?_); refine a8n (fun y : {i : Nat // i <= l.length /\ l.all layB = (l.drop i).all layB} => (⟨[.list 1 (lays l), .undef, .bool false, .int .i64 (y.1 : Int), .undef], [], hpL [], []⟩ : Fs)) (fun y => l.length - y.1) ⟨0, by simp⟩ (a4m [] (fun _ h => h) (by rfl) ?_ ?_ ?_) ?_; (focus (simp [*, SIMF, a0c, a0e, a0m, a1d, a0u, a0b, a0f, a0o, a1f, a1g, a0d, a0j, a0r, a1q, a1r, a0g, a0p, a0s, a1o, a1p, a0a, a0i, a0l, a1e, a0w, List.take_of_length_le, List.filter_append, *]; done)); (focus (simp [*, SIMF, a0c, a0e, a0m, a1d, a0u, a0b, a0f, a0o, a1f, a1g, a0d, a0j, a0r, a1q, a1r, a0g, a0p, a0s, a1o, a1p, a0a, a0i, a0l, a1e, a0w, List.take_of_length_le, List.filter_append]; done)); (focus (simp [*, SIMF, a0c, a0e, a0m, a1d, a0u, a0b, a0f, a0o, a1f, a1g, a0d, a0j, a0r, a1q, a1r, a0g, a0p, a0s, a1o, a1p, a0a, a0i, a0l, a1e, a0w, List.take_of_length_le, List.filter_append, *]; done)); rintro ⟨i, hi, hk⟩; (try dsimp only at hi hk); have hk2 := hk; rcases a1y hi with hlt | ⟨hlt, rfl⟩; rotate_left; rw [d5x] at hk2; rotate_left; rw [e3g _ _ hlt] at hk2; have wi := wli hlt (by omega); have hle := hb _ (List.getElem_mem hlt))
  | ((with_reducible refine a2c ?_); refine a8n (fun y : {k : Nat // k <= (l[i]'hlt).length /\ (l[i]'hlt).all a4x = ((l[i]'hlt).drop k).all a4x} => (⟨[.list 1 (lays l), .undef, .bool false, .int .i64 (i : Int), .int .i64 (y.1 : Int)], [], hpL [], []⟩ : Fs)) (fun y => (l[i]'hlt).length - y.1) ⟨0, by simp⟩ (a4m [] (fun _ h => h) (by rfl) ?_ ?_ ?_) ?_; (focus (simp [*, SIMF, a0c, a0e, a0m, a1d, a0u, a0b, a0f, a0o, a1f, a1g, a0d, a0j, a0r, a1q, a1r, a0g, a0p, a0s, a1o, a1p, a0a, a0i, a0l, a1e, a0w, List.take_of_length_le, List.filter_append, *]; done)); (focus (simp [*, SIMF, a0c, a0e, a0m, a1d, a0u, a0b, a0f, a0o, a1f, a1g, a0d, a0j, a0r, a1q, a1r, a0g, a0p, a0s, a1o, a1p, a0a, a0i, a0l, a1e, a0w, List.take_of_length_le, List.filter_append]; done)); (focus (simp [*, SIMF, a0c, a0e, a0m, a1d, a0u, a0b, a0f, a0o, a1f, a1g, a0d, a0j, a0r, a1q, a1r, a0g, a0p, a0s, a1o, a1p, a0a, a0i, a0l, a1e, a0w, List.take_of_length_le, List.filter_append, *]; done)); rintro ⟨k, hj, hm⟩; (try dsimp only at hj hm); have hm2 := hm; rcases a1y hj with hlk | ⟨hlk, rfl⟩; rotate_left; rw [d5x] at hm2; rotate_left; rw [e3g _ _ hlk] at hm2; have wk := wli hlk (by omega))
  | ((with_reducible refine a1m ?_); refine a2a (⟨i + 1, by omega, by rw [hk2, show layB l[i] = true from by rw [layB, hm2]; simp; omega, Bool.true_and]⟩) (a4m [] (fun _ h => h) (by rfl) ?_ ?_ ?_) (by dsimp only; omega); (focus (simp [*, SIMF, a0c, a0e, a0m, a1d, a0u, a0b, a0f, a0o, a1f, a1g, a0d, a0j, a0r, a1q, a1r, a0g, a0p, a0s, a1o, a1p, a0a, a0i, a0l, a1e, a0w, List.take_of_length_le, List.filter_append, *]; done)); (focus (simp [*, SIMF, a0c, a0e, a0m, a1d, a0u, a0b, a0f, a0o, a1f, a1g, a0d, a0j, a0r, a1q, a1r, a0g, a0p, a0s, a1o, a1p, a0a, a0i, a0l, a1e, a0w, List.take_of_length_le, List.filter_append, *]; done)); (focus (simp [*, SIMF, a0c, a0e, a0m, a1d, a0u, a0b, a0f, a0o, a1f, a1g, a0d, a0j, a0r, a1q, a1r, a0g, a0p, a0s, a1o, a1p, a0a, a0i, a0l, a1e, a0w, List.take_of_length_le, List.filter_append, *]; done)))
  | ((with_reducible refine a1m ?_); refine a2a (⟨k + 1, by omega, by rw [hm2]; simp [a4x, *]⟩) (a4m [] (fun _ h => h) (by rfl) ?_ ?_ ?_) (by dsimp only; omega); (focus (simp [*, SIMF, a0c, a0e, a0m, a1d, a0u, a0b, a0f, a0o, a1f, a1g, a0d, a0j, a0r, a1q, a1r, a0g, a0p, a0s, a1o, a1p, a0a, a0i, a0l, a1e, a0w, List.take_of_length_le, List.filter_append, *]; done)); (focus (simp [*, SIMF, a0c, a0e, a0m, a1d, a0u, a0b, a0f, a0o, a1f, a1g, a0d, a0j, a0r, a1q, a1r, a0g, a0p, a0s, a1o, a1p, a0a, a0i, a0l, a1e, a0w, List.take_of_length_le, List.filter_append, *]; done)); (focus (simp [*, SIMF, a0c, a0e, a0m, a1d, a0u, a0b, a0f, a0o, a1f, a1g, a0d, a0j, a0r, a1q, a1r, a0g, a0p, a0s, a1o, a1p, a0a, a0i, a0l, a1e, a0w, List.take_of_length_le, List.filter_append, *]; done)))
  | with_reducible first | refine stp ?_ | refine stpK ?_; intro K hK | refine stpC ?_; intro T E hT hE | refine stp2 ?_ ?_ <;> intro h | refine a0x rfl ?_ | refine a1a rfl (by decide) a0z ?_ | refine a1a rfl (by decide) (a0y (by simp [upd, noH, ext, a5r, a4l, *])) ?_ | refine a2i (by decide) (by kernel_rfl) ?_ | refine a1j (by decide) ?_ | refine Kont.go hK ?_; clear hK K | refine KT.go hT ?_; clear hT hE T E | refine KT.go hE ?_; clear hT hE T E
  | simp [*, -List.all_flatten, -List.all_eq_true, DEFO, a0e, a0f, a0j, a0p, a0i, a0c, a0b, a0d, a0g, a0a, a5t, a3i, a3t, a9t, a6g, a2r, Ins.row, FnD.row, Gb.row, a4h, Int.le_sub_one_iff]
 all_goals first
  | (simp_all [layR, layB, a4x]; done)
  | (clear hk; simp_all [layR, layB, a4x]; done)
  | (clear hk; simp_all [layR, layB, a4x]; omega)
  | (rw [layR, hk2]; simp [layR, layB, a4x, *]; done)
  | (rw [layR, hk2]; simp [layR, layB, a4x, *] <;> omega)
  | (rw [layR, hk2, layB, hm2]; simp [a4x, *]; done)
  | (rw [layR, hk2, layB, show decide (l[i].length <= 64) = false from by simp; omega]; simp; done)
  | trace_state
def b7x (s : ByteArray) : List FV := [.str s]
def strs (L : List (ByteArray)) : List (List FV) := L.map b7x
theorem a2s (L : List (ByteArray)) : (strs L).length = L.length := by simp [strs]
theorem a3c (a b : List (ByteArray)) : strs (a ++ b) = strs a ++ strs b := by simp [strs]
theorem a4j (a : ByteArray) : strs [a] = [b7x a] := rfl
theorem a4d : strs [] = [] := rfl
theorem a3x (n : Nat) (l : List (ByteArray)) : (strs l).take n = strs (l.take n) := by simp [strs, List.map_take]
theorem a3j (L : List (ByteArray)) : nlss (strs L) = true := by
 induction L with
 | nil => rfl
 | cons r rs ih => simpa [strs, nlss, nls, nl, b7x] using ih
def fidx (l : List Int) : Int := if l.all a4x then -1 else (l.findIdx (fun k => !a4x k) : Int)
theorem d9l {l : List Int} (h : ∀ j (hj : j < l.length), a4x l[j] = true) : fidx l = -1 := by
 rw [fidx, if_pos]
 rw [List.all_eq_true]
 intro x hx
 obtain ⟨j, hj, rfl⟩ := List.getElem_of_mem hx
 exact h j hj
theorem d4i {l : List Int} {i : Nat} (hi : i < l.length) (h : a4x l[i] = false) (hb : ∀ j (hj : j < l.length), j < i -> a4x l[j] = true) : fidx l = (i : Int) := by
 rw [fidx, if_neg]
 . congr 1
   rw [List.findIdx_eq hi]
   refine ⟨by simp [h], fun j hj => ?_⟩
   have := hb j (by omega) hj
   simp [this]
 . intro ha
   have := List.all_eq_true.mp ha _ (List.getElem_mem hi)
   rw [h] at this; cases this
theorem d4h (l : List Int) : decide (0 <= fidx l) = !(l.all a4x) := by
 unfold fidx
 cases h : l.all a4x <;> simp
def kOk (l : List Int) (i : Nat) : Prop := ∀ j (hj : j < l.length), j < i -> a4x l[j] = true
theorem g8w (l : List Int) : kOk l 0 := fun _ _ h => absurd h (by omega)
theorem g8v {l : List Int} {i : Nat} (h : kOk l i) (hi : i < l.length) (e : a4x l[i] = true) : kOk l (i + 1) := by
 intro j hj hji
 by_cases e' : j = i
 . subst e'; exact e
 . exact h j hj (by omega)
theorem c33 (k : Int) : PC Tryz.prog Gl 74 [.int .i64 k] (.bool (!a4x k)) := by
 refine a9p (res := [.tmp 2]) 3 6 [] (fun d ix => d :: ix) (fn := Tryz.f74) (by kernel_rfl) (by rfl) (by rfl) (by rfl) (by simp) (by decide) ?_
 repeat' first
  | with_reducible first | refine stp ?_ | refine stpK ?_; intro K hK | refine stpC ?_; intro T E hT hE | refine stp2 ?_ ?_ <;> intro h | refine a0x rfl ?_ | refine a2n (c34 _) (by simp [nls, nl, *, a0b, a0d, a0g, a0a, a0c]) ?_ | refine hpc (c34 _) (by simp [nls, nl, *, a0b, a0d, a0g, a0a, a0c]) ?_ | refine a1a rfl (by decide) a0z ?_ | refine a1a rfl (by decide) (a0y (by simp [upd, noH, ext, a5r, a4l, *])) ?_ | refine a2i (by decide) (by kernel_rfl) ?_ | refine a1j (by decide) ?_ | refine Kont.go hK ?_; clear hK K | refine KT.go hT ?_; clear hT hE T E | refine KT.go hE ?_; clear hT hE T E
  | simp [*, -List.all_flatten, -List.all_eq_true, DEFO]
theorem c60 (l : List Int) (hl : l.length <= 2000000) : PC Tryz.prog Gl 123 [.list 1 (ints l), .clo 74 [] []] (.int .i64 (fidx l)) := by
 refine a9p (res := [.tmp 4]) 6 19 [8, 7] (fun d ix => d :: ix) (fn := Tryz.f123) (by kernel_rfl) (by rfl) (by rfl) (by rfl) (by simp) (by decide) ?_
 repeat' first
  | ((with_reducible refine a2c ?_); refine a8n (fun y : {i : Nat // i <= l.length /\ kOk l i} => (⟨[.list 1 (ints l), .clo 74 [] [], .undef, .undef, .int .i64 0, .undef], [(7, .int .i64 (l.length : Int)), (8, .int .i64 (y.1 : Int))], hpL [], []⟩ : Fs)) (fun y => l.length - y.1) ⟨0, by simp, g8w l⟩ (a4m [] (fun _ h => h) (by rfl) ?_ ?_ ?_) ?_; (focus (simp [*, SIMF, a0c, a0e, a0m, a1d, a0u, a0b, a0f, a0o, a1f, a1g, a0d, a0j, a0r, a1q, a1r, a0g, a0p, a0s, a1o, a1p, a0a, a0i, a0l, a1e, a0w, List.take_of_length_le, List.filter_append, *]; done)); (focus (simp [*, SIMF, a0c, a0e, a0m, a1d, a0u, a0b, a0f, a0o, a1f, a1g, a0d, a0j, a0r, a1q, a1r, a0g, a0p, a0s, a1o, a1p, a0a, a0i, a0l, a1e, a0w, List.take_of_length_le, List.filter_append]; done)); (focus (simp [*, SIMF, a0c, a0e, a0m, a1d, a0u, a0b, a0f, a0o, a1f, a1g, a0d, a0j, a0r, a1q, a1r, a0g, a0p, a0s, a1o, a1p, a0a, a0i, a0l, a1e, a0w, List.take_of_length_le, List.filter_append, *]; done)); rintro ⟨i, hi, hk⟩; (try dsimp only at hi hk); rcases a1y hi with hlt | ⟨hlt, rfl⟩; have wi := wli hlt (by omega); cases hkb : a4x (l[i]'hlt))
  | ((with_reducible refine a1m ?_); refine a2a (⟨i + 1, by omega, g8v hk hlt hkb⟩) (a4m [] (fun _ h => h) (by rfl) ?_ ?_ ?_) (by dsimp only; omega); (focus (simp [*, SIMF, a0c, a0e, a0m, a1d, a0u, a0b, a0f, a0o, a1f, a1g, a0d, a0j, a0r, a1q, a1r, a0g, a0p, a0s, a1o, a1p, a0a, a0i, a0l, a1e, a0w, List.take_of_length_le, List.filter_append, *]; done)); (focus (simp [*, SIMF, a0c, a0e, a0m, a1d, a0u, a0b, a0f, a0o, a1f, a1g, a0d, a0j, a0r, a1q, a1r, a0g, a0p, a0s, a1o, a1p, a0a, a0i, a0l, a1e, a0w, List.take_of_length_le, List.filter_append, *]; done)); (focus (simp [*, SIMF, a0c, a0e, a0m, a1d, a0u, a0b, a0f, a0o, a1f, a1g, a0d, a0j, a0r, a1q, a1r, a0g, a0p, a0s, a1o, a1p, a0a, a0i, a0l, a1e, a0w, List.take_of_length_le, List.filter_append, *]; done)))
  | with_reducible first | refine stp ?_ | refine stpK ?_; intro K hK | refine stpC ?_; intro T E hT hE | refine stp2 ?_ ?_ <;> intro h | refine a0x rfl ?_ | refine a2n (c33 _) (by simp [nls, nl, *, a0b, a0d, a0g, a0a, a0c]) ?_ | refine hpc (c33 _) (by simp [nls, nl, *, a0b, a0d, a0g, a0a, a0c]) ?_ | refine a1a rfl (by decide) a0z ?_ | refine a1a rfl (by decide) (a0y (by simp [upd, noH, ext, a5r, a4l, *])) ?_ | refine a2i (by decide) (by kernel_rfl) ?_ | refine a1j (by decide) ?_ | refine Kont.go hK ?_; clear hK K | refine KT.go hT ?_; clear hT hE T E | refine KT.go hE ?_; clear hT hE T E
  | simp [*, -List.all_flatten, -List.all_eq_true, DEFO, a0e, a0f, a0j, a0p, a0i, a0c, a0b, a0d, a0g, a0a, a5t, a3i, a3t, a9t, a6g, a2r, Ins.row, FnD.row, Gb.row, a4h, Int.le_sub_one_iff]
 all_goals first
  | (rw [d4i hlt hkb hk]; done)
  | (simp [d4i hlt hkb hk]; done)
  | (simp [d9l (fun j hj => hk j hj hj)]; done)
  | trace_state
theorem c32 (l : List Int) (hl : l.length <= 2000000) : PC Tryz.prog Gl 73 [.list 1 (ints l), .clo 74 [] []] (.bool (!(l.all a4x))) := by
 refine a9p (res := [.tmp 4]) 5 9 [] (fun d ix => d :: ix) (fn := Tryz.f73) (by kernel_rfl) (by rfl) (by rfl) (by rfl) (by simp) (by decide) ?_
 repeat' first
  | with_reducible first | refine stp ?_ | refine stpK ?_; intro K hK | refine stpC ?_; intro T E hT hE | refine stp2 ?_ ?_ <;> intro h | refine a0x rfl ?_ | refine a2n (c60 l hl) (by simp [nls, nl, *, a0b, a0d, a0g, a0a, a0c]) ?_ | refine hpc (c60 l hl) (by simp [nls, nl, *, a0b, a0d, a0g, a0a, a0c]) ?_ | refine a1a rfl (by decide) a0z ?_ | refine a1a rfl (by decide) (a0y (by simp [upd, noH, ext, a5r, a4l, *])) ?_ | refine a2i (by decide) (by kernel_rfl) ?_ | refine a1j (by decide) ?_ | refine Kont.go hK ?_; clear hK K | refine KT.go hT ?_; clear hT hE T E | refine KT.go hE ?_; clear hT hE T E
  | simp [*, -List.all_flatten, -List.all_eq_true, DEFO, a0e, a0f, a0j, a0p, a0i, a0c, a0b, a0d, a0g, a0a, a5t, a3i, a3t, a9t, a6g, a2r, Ins.row, FnD.row, Gb.row, a4h, Int.le_sub_one_iff, d4h]
 all_goals first
  | (simp [<- d4h]; done)
  | trace_state
@[simp] theorem g6n : arE Tryz.prog 49 = Option.none := by kernel_rfl
@[simp] theorem g1c : arE Tryz.prog 158 = Option.none := by kernel_rfl
@[simp] theorem g1d : arE Tryz.prog 138 = Option.none := by kernel_rfl
@[simp] theorem g6o : arE Tryz.prog 42 = Option.none := by kernel_rfl
@[simp] theorem g6b : arT Tryz.prog 47 = Option.none := by kernel_rfl
@[simp] theorem g0y : arT Tryz.prog 135 = Option.none := by kernel_rfl
@[simp] theorem g0x : arT Tryz.prog 136 = Option.none := by kernel_rfl
@[simp] theorem g5w : byT Tryz.prog 24 = (Option.some 24) := by kernel_rfl
@[simp] theorem g0p : byT Tryz.prog 141 = (Option.some 8) := by kernel_rfl
@[simp] theorem g0q : byT Tryz.prog 136 = (Option.some 24) := by kernel_rfl
@[simp] theorem e7s : fldT Tryz.prog 49 0 = (Option.some 0) := by kernel_rfl
@[simp] theorem e7r : fldT Tryz.prog 49 1 = (Option.some 1) := by kernel_rfl
@[simp] theorem e7q : fldT Tryz.prog 49 2 = (Option.some 2) := by kernel_rfl
@[simp] theorem e2r : fldT Tryz.prog 138 0 = (Option.some 0) := by kernel_rfl
@[simp] theorem e2q : fldT Tryz.prog 138 1 = (Option.some 4) := by kernel_rfl
@[simp] theorem e2p : fldT Tryz.prog 138 2 = (Option.some 5) := by kernel_rfl
@[simp] theorem e2o : fldT Tryz.prog 138 3 = (Option.some 6) := by kernel_rfl
@[simp] theorem e2n : fldT Tryz.prog 138 4 = (Option.some 7) := by kernel_rfl
@[simp] theorem f9l : fnOk Tryz.prog 53 = Bool.true := by kernel_rfl
@[simp] theorem g0c : fnOk Tryz.prog 27 = Bool.true := by kernel_rfl
@[simp] theorem g0b : fnOk Tryz.prog 32 = Bool.true := by kernel_rfl
@[simp] theorem g0d : fnOk Tryz.prog 22 = Bool.true := by kernel_rfl
@[simp] theorem f0x : fnOk Tryz.prog 177 = Bool.true := by kernel_rfl
@[simp] theorem f8o : fnOk Tryz.prog 89 = Bool.true := by kernel_rfl
@[simp] theorem f8l : fnOk Tryz.prog 92 = Bool.true := by kernel_rfl
@[simp] theorem f8k : fnOk Tryz.prog 94 = Bool.true := by kernel_rfl
@[simp] theorem f9g : fnOk Tryz.prog 64 = Bool.true := by kernel_rfl
@[simp] theorem f9h : fnOk Tryz.prog 63 = Bool.true := by kernel_rfl
@[simp] theorem f8n : fnOk Tryz.prog 90 = Bool.true := by kernel_rfl
@[simp] theorem f8m : fnOk Tryz.prog 91 = Bool.true := by kernel_rfl
@[simp] theorem f9j : fnOk Tryz.prog 61 = Bool.true := by kernel_rfl
@[simp] theorem f1l : fnOk Tryz.prog 152 = Bool.true := by kernel_rfl
@[simp] theorem f1o : fnOk Tryz.prog 140 = Bool.true := by kernel_rfl
@[simp] theorem f1n : fnOk Tryz.prog 141 = Bool.true := by kernel_rfl
@[simp] theorem f2h : fnOk Tryz.prog 112 = Bool.true := by kernel_rfl
@[simp] theorem f2i : fnOk Tryz.prog 111 = Bool.true := by kernel_rfl
@[simp] theorem f2j : fnOk Tryz.prog 110 = Bool.true := by kernel_rfl
@[simp] theorem f9o : fnOk Tryz.prog 49 = Bool.true := by kernel_rfl
@[simp] theorem f1a : fnOk Tryz.prog 174 = Bool.true := by kernel_rfl
@[simp] theorem f0z : fnOk Tryz.prog 175 = Bool.true := by kernel_rfl
@[simp] theorem f0y : fnOk Tryz.prog 176 = Bool.true := by kernel_rfl
@[simp] theorem f1g : fnOk Tryz.prog 157 = Bool.true := by kernel_rfl
@[simp] theorem f1k : fnOk Tryz.prog 153 = Bool.true := by kernel_rfl
@[simp] theorem f1j : fnOk Tryz.prog 154 = Bool.true := by kernel_rfl
@[simp] theorem f1i : fnOk Tryz.prog 155 = Bool.true := by kernel_rfl
@[simp] theorem f1h : fnOk Tryz.prog 156 = Bool.true := by kernel_rfl
@[simp] theorem g0n : fnOk Tryz.prog 12 = Bool.true := by kernel_rfl
@[simp] theorem g0e : fnOk Tryz.prog 21 = Bool.true := by kernel_rfl
@[simp] theorem f0u : fnOk Tryz.prog 202 = Bool.true := by kernel_rfl
@[simp] theorem f9i : fnOk Tryz.prog 62 = Bool.true := by kernel_rfl
@[simp] theorem f0w : fnOk Tryz.prog 178 = Bool.true := by kernel_rfl
@[simp] theorem g4t : ldT Tryz.prog 46 = (Option.some Option.none) := by kernel_rfl
@[simp] theorem g4s : ldT Tryz.prog 47 = (Option.some Option.none) := by kernel_rfl
@[simp] theorem g4r : ldT Tryz.prog 49 = (Option.some (Option.some 3)) := by kernel_rfl
@[simp] theorem g9w : ldT Tryz.prog 4 = (Option.some Option.none) := by kernel_rfl
@[simp] theorem f8e : ldT Tryz.prog 131 = (Option.some Option.none) := by kernel_rfl
@[simp] theorem f8a : ldT Tryz.prog 141 = (Option.some Option.none) := by kernel_rfl
@[simp] theorem f7y : ldT Tryz.prog 158 = (Option.some (Option.some 0)) := by kernel_rfl
@[simp] theorem f7z : ldT Tryz.prog 143 = (Option.some Option.none) := by kernel_rfl
@[simp] theorem f8d : ldT Tryz.prog 134 = (Option.some Option.none) := by kernel_rfl
@[simp] theorem f8c : ldT Tryz.prog 135 = (Option.some Option.none) := by kernel_rfl
@[simp] theorem f8b : ldT Tryz.prog 136 = (Option.some Option.none) := by kernel_rfl
@[simp] theorem b6s : mpT Tryz.prog 141 = (Option.some (3, 158)) := by kernel_rfl
@[simp] theorem c2f : mpT Tryz.prog 134 = (Option.some (98, 3)) := by kernel_rfl
@[simp] theorem e2i : a5x Tryz.prog 49 = (Option.some ((0, 1) :: ((1, 1) :: ((2, 1) :: [])))) := by kernel_rfl
@[simp] theorem d9r : a5x Tryz.prog 158 = (Option.some []) := by kernel_rfl
@[simp] theorem d9s : a5x Tryz.prog 138 = (Option.some ((0, 4) :: ((4, 1) :: ((5, 1) :: ((6, 1) :: ((7, 1) :: [])))))) := by kernel_rfl
@[simp] theorem e2j : a5x Tryz.prog 42 = (Option.some ((0, 1) :: ((1, 1) :: ((2, 1) :: ((3, 1) :: ((4, 1) :: [])))))) := by kernel_rfl
@[simp] theorem g3y : slT Tryz.prog 47 = (Option.some (24, 1)) := by kernel_rfl
@[simp] theorem f7m : slT Tryz.prog 141 = Option.none := by kernel_rfl
@[simp] theorem f7o : slT Tryz.prog 135 = (Option.some (136, 1)) := by kernel_rfl
@[simp] theorem f7n : slT Tryz.prog 136 = (Option.some (141, 1)) := by kernel_rfl
@[simp] theorem f7d : strT Tryz.prog 47 = Bool.false := by kernel_rfl
@[simp] theorem f0o : strT Tryz.prog 141 = Bool.false := by kernel_rfl
@[simp] theorem f0q : strT Tryz.prog 135 = Bool.false := by kernel_rfl
@[simp] theorem f0p : strT Tryz.prog 136 = Bool.false := by kernel_rfl
@[simp] theorem g3h : szT Tryz.prog 47 = (Option.some 1) := by kernel_rfl
@[simp] theorem g3g : szT Tryz.prog 49 = (Option.some 3) := by kernel_rfl
@[simp] theorem g9p : szT Tryz.prog 4 = (Option.some 1) := by kernel_rfl
@[simp] theorem g2z : szT Tryz.prog 98 = (Option.some 2) := by kernel_rfl
@[simp] theorem g3k : szT Tryz.prog 36 = (Option.some 1) := by kernel_rfl
@[simp] theorem f6w : szT Tryz.prog 131 = (Option.some 1) := by kernel_rfl
@[simp] theorem f6q : szT Tryz.prog 158 = (Option.some 0) := by kernel_rfl
@[simp] theorem f6r : szT Tryz.prog 143 = (Option.some 1) := by kernel_rfl
@[simp] theorem f6v : szT Tryz.prog 135 = (Option.some 1) := by kernel_rfl
@[simp] theorem f6u : szT Tryz.prog 136 = (Option.some 1) := by kernel_rfl
@[simp] theorem f6t : szT Tryz.prog 138 = (Option.some 8) := by kernel_rfl
@[simp] theorem f0n : a5c Tryz.prog 24 = (Option.some (Go.FM.FV.nils :: [])) := by kernel_rfl
@[simp] theorem f0h : a5c Tryz.prog 49 = (Option.some (Go.FM.FV.nils :: (Go.FM.FV.nils :: (Go.FM.FV.nils :: [])))) := by kernel_rfl
@[simp] theorem f6l : a5c Tryz.prog 4 = (Option.some ((Go.FM.FV.bool Bool.false) :: [])) := by kernel_rfl
@[simp] theorem e6z : a5c Tryz.prog 141 = (Option.some (Go.FM.FV.nilm :: [])) := by kernel_rfl
@[simp] theorem e6y : a5c Tryz.prog 158 = (Option.some []) := by kernel_rfl
@[simp] theorem e7b : a5c Tryz.prog 136 = (Option.some (Go.FM.FV.nils :: [])) := by kernel_rfl
@[simp] theorem e7a : a5c Tryz.prog 138 = (Option.some (Go.FM.FV.nils :: (Go.FM.FV.nils :: (Go.FM.FV.nils :: ((Go.FM.FV.int Go.IntKind.i64 0) :: (Go.FM.FV.nils :: (Go.FM.FV.nilm :: (Go.FM.FV.nils :: (Go.FM.FV.nils :: []))))))))) := by kernel_rfl
@[simp] theorem d4j : c0y Tryz.prog 3 = (Option.some (Go.FM.FV.int Go.IntKind.i64 0)) := by kernel_rfl
@[simp] theorem c3z : c0y Tryz.prog 158 = (Option.some (Go.FM.FV.agg [])) := by kernel_rfl
def a9v (l : List (List Int)) : List FV := [.list 1 (lays l)]
def lls (L : List (List (List Int))) : List (List FV) := L.map a9v
theorem a4e (L : List (List (List Int))) : (lls L).length = L.length := by simp [lls]
theorem e1q {L : List (List (List Int))} {i : Nat} (h : i < (lls L).length) : (lls L)[i] = a9v (L[i]'(by rwa [a4e] at h)) := by simp [lls]
theorem b8h (a b : List (List (List Int))) : lls (a ++ b) = lls a ++ lls b := by simp [lls]
theorem d2s (a : List (List Int)) : lls [a] = [a9v a] := rfl
theorem d2t : lls [] = [] := rfl
theorem a7a (n : Nat) (l : List (List (List Int))) : (lls l).take n = lls (l.take n) := by simp [lls, List.map_take]
theorem a2j (L : List (List (List Int))) : nlss (lls L) = true := by
 induction L with
 | nil => rfl
 | cons r rs ih => simpa [lls, nlss, nls, nl, a9v, a0a] using ih
theorem a7j (L : List (List (List Int))) : (lls L).flatten.all FV.cellV = true := by
 induction L with
 | nil => rfl
 | cons r rs ih => simp [lls, FV.cellV, a9v]
def b2g (s : Int × Int) : List FV := [.int .i64 s.1, .int .i64 s.2]
def sits (L : List (Int × Int)) : List (List FV) := L.map b2g
theorem a2e (L : List (Int × Int)) : (sits L).length = L.length := by simp [sits]
theorem d0y {L : List (Int × Int)} {i : Nat} (h : i < (sits L).length) : (sits L)[i] = b2g (L[i]'(by rwa [a2e] at h)) := by simp [sits]
theorem c3d (a b : List (Int × Int)) : sits (a ++ b) = sits a ++ sits b := by simp [sits]
theorem d7c (a : Int × Int) : sits [a] = [b2g a] := rfl
theorem d7d : sits [] = [] := rfl
theorem c1g (n : Nat) (l : List (Int × Int)) : (sits l).take n = sits (l.take n) := by simp [sits, List.map_take]
theorem a1k (L : List (Int × Int)) : nlss (sits L) = true := by
 induction L with
 | nil => rfl
 | cons r rs ih => simpa [sits, nlss, nls, nl, b2g] using ih
theorem a5z (L : List (Int × Int)) : (sits L).flatten.all FV.cellV = true := by
 induction L with
 | nil => rfl
 | cons r rs ih => simp [sits, FV.cellV, b2g]
theorem szn {n k : Nat} (h : n <= 1000000000) (hk : k <= 100) : (n + n / 4 + 192) * k <= 140737488355328 := by
 have h1 : n + n / 4 + 192 <= 1300000000 := by omega
 have := Nat.mul_le_mul h1 hk
 omega
theorem d2x (l : List (List Int)) {i : Nat} (h : i < l.length) : lays (l.take (i + 1)) = lays (l.take i) ++ [[.list 1 (ints l[i])]] := by
 rw [List.take_add_one, List.getElem?_eq_getElem h, a0l]; rfl
theorem g9m (n : Int) : fMax (.int .i64 0) [.int .i64 n] = some (.int .i64 (mx0 n)) := by simp [fMax, mx0]
theorem wlen (n : Nat) (h : n <= 1000000000) : IntKind.wrap .i64 (1 + (n : Int)) = 1 + (n : Int) := by rw [IntKind.wrap_i64]; omega
theorem a7c (a : Int) (l : List Int) : ints (a :: l) = [.int .i64 a] :: ints l := rfl
end Go.Je
namespace Go.Je
open Go Go.FM Go.Gv Go.Proofs
set_option maxRecDepth 100000
set_option linter.defProp false
theorem e2d {H : Heap} {k : Nat} {xs : List (List FV)} (h : nlss xs = true) : frzR H (k + 1) xs = some xs := by
 unfold frzR
 rw [if_pos h]
def HPXB := And.intro @Go.FM.a2g (And.intro @Go.FM.a1t (And.intro @Go.FM.b1b (And.intro @Go.FM.a4r (And.intro @Go.FM.b7i (And.intro @Go.FM.a2d (And.intro @Go.FM.a1w (And.intro @Go.FM.b0o (And.intro @Go.FM.a8z (@Go.FM.a1u)))))))))
def NLXB := And.intro @Go.FM.nls.eq_1 (And.intro @Go.FM.nls.eq_2 (And.intro @Go.FM.nl.eq_1 (And.intro @Go.FM.nl.eq_2 (And.intro @Go.FM.nl.eq_3 (And.intro @Go.FM.nl.eq_4 (And.intro @Go.FM.nl.eq_5 (And.intro @Go.FM.nl.eq_6 (And.intro @Go.FM.nl.eq_7 (And.intro @Go.FM.nl.eq_8 (And.intro @Go.FM.nl.eq_9 (And.intro @Go.FM.nl.eq_10 (And.intro @Go.FM.nl.eq_11 (And.intro @Go.FM.nl.eq_12 (And.intro @Go.FM.nl.eq_13 (And.intro @Go.FM.nl.eq_14 (And.intro @Go.FM.nl.eq_15 (And.intro @Go.FM.nl.eq_16 (And.intro @Go.FM.nl.eq_17 (And.intro @Go.Je.a0c (And.intro @Go.Je.a0b (And.intro @Go.Je.a0d (And.intro @Go.Je.a0g (And.intro @Go.Je.a0a (And.intro @Go.Je.a3j (And.intro @Go.Je.a2j (@Go.Je.a1k))))))))))))))))))))))))))
def SIMB := And.intro @Go.FM.d8f (And.intro @Go.FM.e5q (And.intro @Go.FM.f5a (And.intro @Go.FM.e5r (And.intro @Go.FM.mV.eq_def (And.intro @Go.FM.mSl.eq_def (And.intro @Go.FM.mPt.eq_def (And.intro @Go.FM.mMp.eq_def (And.intro @Go.FM.b8e (And.intro @Go.FM.c6c (And.intro @Go.FM.d2l (And.intro @Go.FM.b1v (And.intro @Go.FM.nlss.eq_1 (And.intro @Go.FM.nlss.eq_2 (And.intro @Go.FM.nls.eq_1 (And.intro @Go.FM.nls.eq_2 (And.intro @Go.FM.nl.eq_1 (And.intro @Go.FM.nl.eq_2 (And.intro @Go.FM.nl.eq_3 (And.intro @Go.FM.nl.eq_4 (And.intro @Go.FM.nl.eq_5 (And.intro @Go.FM.nl.eq_6 (And.intro @Go.FM.nl.eq_7 (And.intro @Go.FM.nl.eq_8 (And.intro @Go.FM.nl.eq_9 (And.intro @Go.FM.nl.eq_10 (And.intro @Go.FM.nl.eq_11 (And.intro @Go.FM.nl.eq_12 (And.intro @Go.FM.nl.eq_13 (And.intro @Go.FM.nl.eq_14 (And.intro @Go.FM.nl.eq_15 (And.intro @Go.FM.nl.eq_16 (And.intro @Go.FM.nl.eq_17 (And.intro @Go.FM.a9u.eq_1 (And.intro @Go.FM.a9u.eq_2 (And.intro @Go.FM.a9u.eq_3 (And.intro @Go.FM.simV.eq_def (And.intro @Go.FM.simT.eq_1 (And.intro @Go.FM.simT.eq_2 (And.intro @Go.FM.simH.eq_1 (And.intro @Go.FM.simH.eq_2 (And.intro @Go.FM.simO.eq_def (And.intro @Go.FM.renO.eq_def (And.intro @Go.FM.innO.eq_def (And.intro @Go.FM.ren.eq_1 (And.intro @Go.FM.ren.eq_2 (And.intro @Go.FM.ren.eq_3 (And.intro @Go.FM.ren.eq_4 (And.intro @Go.FM.ren.eq_5 (And.intro @Go.FM.ren.eq_6 (And.intro @Go.FM.ren.eq_7 (And.intro @Go.FM.inn.eq_1 (And.intro @Go.FM.inn.eq_2 (And.intro @Go.FM.inn.eq_3 (And.intro @Go.FM.inn.eq_4 (And.intro @Go.FM.inn.eq_5 (And.intro @Go.FM.inn.eq_6 (And.intro @Go.FM.inn.eq_7 (And.intro @Go.FM.inn.eq_8 (And.intro @Go.FM.inn.eq_9 (And.intro @Go.FM.rens.eq_1 (And.intro @Go.FM.rens.eq_2 (And.intro @Go.FM.inns.eq_1 (And.intro @Go.FM.inns.eq_2 (And.intro @Go.FM.renss.eq_1 (And.intro @Go.FM.renss.eq_2 (And.intro @Go.FM.a8e.eq_1 (And.intro @Go.FM.a8e.eq_2 (And.intro @Go.FM.rene.eq_1 (And.intro @Go.FM.rene.eq_2 (And.intro @Go.FM.inne.eq_1 (And.intro @Go.FM.inne.eq_2 (And.intro @Go.FM.bk.eq_1 (And.intro @Go.FM.bk.eq_2 (And.intro @Go.FM.lk.eq_1 (And.intro @Go.FM.lk.eq_2 (And.intro @Go.FM.a2g (And.intro @Go.FM.a1t (And.intro @Go.FM.b1b (And.intro @Go.FM.a4r (And.intro @Go.FM.b7i (And.intro @Go.FM.a2d (And.intro @Go.FM.a1w (And.intro @Go.FM.b0o (And.intro @Go.FM.a8z (And.intro @Go.FM.a1u (And.intro @List.cons_append.{0} (And.intro @List.nil_append.{0} (And.intro @List.append_nil.{0} (And.intro @Go.FM.b4q (And.intro @Go.FM.b5a (And.intro @Go.FM.b0e (And.intro @Go.FM.b0g (And.intro @Go.Je.a0c (And.intro @Go.Je.a0e (And.intro @Go.Je.a0m (And.intro @Go.Je.a1d (And.intro @Go.Je.a0u (And.intro @Go.Je.a4u (And.intro @Go.Je.a0b (And.intro @Go.Je.a0f (And.intro @Go.Je.a0o (And.intro @Go.Je.a1f (And.intro @Go.Je.a1g (And.intro @Go.Je.b6g (And.intro @Go.Je.a0d (And.intro @Go.Je.a0j (And.intro @Go.Je.a0r (And.intro @Go.Je.a1q (And.intro @Go.Je.a1r (And.intro @Go.Je.b2w (And.intro @Go.Je.a0g (And.intro @Go.Je.a0p (And.intro @Go.Je.a0s (And.intro @Go.Je.a1o (And.intro @Go.Je.a1p (And.intro @Go.Je.c0h (And.intro @Go.Je.a0a (And.intro @Go.Je.a0i (And.intro @Go.Je.a0l (And.intro @Go.Je.a1e (And.intro @Go.Je.a0w (And.intro @Go.Je.a5a (And.intro @Go.Je.a3j (And.intro @Go.Je.a2s (And.intro @Go.Je.a3c (And.intro @Go.Je.a4j (And.intro @Go.Je.a4d (And.intro @Go.Je.a3x (And.intro @Go.Je.a2j (And.intro @Go.Je.a4e (And.intro @Go.Je.b8h (And.intro @Go.Je.d2s (And.intro @Go.Je.d2t (And.intro @Go.Je.a7a (And.intro @Go.Je.a1k (And.intro @Go.Je.a2e (And.intro @Go.Je.c3d (And.intro @Go.Je.d7c (And.intro @Go.Je.d7d (And.intro @Go.Je.c1g (And.intro @Go.Je.b2g.eq_def (And.intro @List.take_take.{0} (And.intro @Nat.min_self (And.intro @List.length_append.{0} (And.intro @List.take_of_length_le.{0} (@List.filter_append.{0}))))))))))))))))))))))))))))))))))))))))))))))))))))))))))))))))))))))))))))))))))))))))))))))))))))))))))))))))))))))))))))))))))))))))))))))))))
def LPXB := And.intro @Go.FM.b9i (And.intro @Go.FM.b5q (And.intro @List.set_cons_zero.{0} (And.intro @List.set_cons_succ.{0} (And.intro @Go.FM.b5r (And.intro @Go.FM.b3c (And.intro @Go.FM.b0o (And.intro @Go.FM.a8z (And.intro @Go.FM.c0r (And.intro @Go.FM.b7a (And.intro @Go.FM.c0q (And.intro @Go.FM.a9c.eq_def (And.intro @List.map_cons.{0,0} (And.intro @List.map_nil.{0,0} (And.intro @Go.FM.lk.eq_1 (And.intro @Go.FM.lk.eq_2 (And.intro @List.nil_append.{0} (And.intro @List.cons_append.{0} (And.intro @List.append_nil.{0} (And.intro @List.contains_cons.{0} (And.intro @List.contains_nil.{0} (@List.cons.injEq.{0})))))))))))))))))))))
def LENB := And.intro @Go.Je.a0e (And.intro @Go.Je.a0c (And.intro @Go.Je.a5t (And.intro @Go.Je.a0f (And.intro @Go.Je.a0b (And.intro @Go.Je.a3i (And.intro @Go.Je.a0j (And.intro @Go.Je.a0d (And.intro @Go.Je.a3t (And.intro @Go.Je.a0p (And.intro @Go.Je.a0g (And.intro @Go.Je.a9t (And.intro @Go.Je.a0i (And.intro @Go.Je.a0a (And.intro @Go.Je.a6g (And.intro @Go.Je.a4e (And.intro @Go.Je.a2j (And.intro @Go.Je.e1q (And.intro @Go.Je.a2e (And.intro @Go.Je.a1k (And.intro @Go.Je.d0y (And.intro @Go.Je.a2r.eq_def (And.intro @Go.Gv.Ins.row.eq_def (And.intro @Go.Gv.FnD.row.eq_def (And.intro @Go.Gv.Gb.row.eq_def (And.intro @Go.Je.a4h.eq_def (And.intro @Go.Je.a9v.eq_def (@Go.Je.b2g.eq_def)))))))))))))))))))))))))))
def DEFB := And.intro @Go.FM.a0n (And.intro @Go.FM.Fs.init.eq_def (And.intro @Go.FM.Fs.get.eq_def (And.intro @Go.FM.Fs.put.eq_def (And.intro @Go.FM.Fs.clean.eq_def (And.intro @Go.FM.lk.eq_1 (And.intro @Go.FM.lk.eq_2 (And.intro @Go.FM.upd.eq_def (And.intro @Go.FM.ext.eq_def (And.intro @Go.FM.cv1.eq_def (And.intro @Go.FM.cv.eq_def (And.intro @Go.FM.rv.eq_def (And.intro @Go.FM.FV.isU.eq_def (And.intro @Go.FM.FV.cellV.eq_def (And.intro @Go.FM.FV.cellsL.eq_def (And.intro @Go.FM.FV.storable.eq_def (And.intro @Go.FM.b4i.eq_def (And.intro @Go.FM.b6w.eq_def (And.intro @Go.FM.b6v.eq_def (And.intro @Go.FM.fLen.eq_def (And.intro @Go.FM.fBin.eq_def (And.intro @Go.FM.fUn.eq_def (And.intro @Go.FM.c4g.eq_def (And.intro @Go.FM.b7o.eq_def (And.intro @Go.FM.b6u.eq_def (And.intro @Go.FM.a8s.eq_1 (And.intro @Go.FM.a8s.eq_2 (And.intro @Go.FM.b2x.eq_1 (And.intro @Go.FM.b2x.eq_2 (And.intro @Go.FM.pv.eq_def (And.intro @Go.FM.pv1.eq_def (And.intro @Go.FM.pv2.eq_def (And.intro @Go.FM.wv.eq_def (And.intro @Go.FM.b3w.eq_def (And.intro @Go.FM.wBox.eq_def (And.intro @Go.FM.b3u.eq_def (And.intro @Go.FM.a7z.eq_def (And.intro @Go.FM.b3v.eq_def (And.intro @Go.FM.b2d.eq_def (And.intro @Go.FM.b1o.eq_def (And.intro @Go.FM.wApp.eq_def (And.intro @Go.FM.srcA.eq_def (And.intro @Go.FM.a7o.eq_1 (And.intro @Go.FM.a7o.eq_2 (And.intro @Go.FM.upds.eq_def (And.intro @List.foldl_cons.{0,0} (And.intro @List.foldl_nil.{0,0} (And.intro @Go.FM.b2y.eq_def (And.intro @Go.FM.fNil.eq_def (And.intro @Go.FM.fUn2.eq_def (And.intro @Go.FM.c4h.eq_def (And.intro @Go.FM.fCmp.eq_def (And.intro @Go.FM.c2g.eq_def (And.intro @Go.FM.eqK.eq_1 (And.intro @Go.FM.eqK.eq_2 (And.intro @Go.FM.a4p.eq_1 (And.intro @Go.FM.a4p.eq_2 (And.intro @Go.FM.a4p.eq_3 (And.intro @Go.FM.eqV.eq_1 (And.intro @Go.FM.eqV.eq_2 (And.intro @Go.FM.eqV.eq_3 (And.intro @Go.FM.eqV.eq_4 (And.intro @Go.FM.FV.kd.eq_def (And.intro @Go.FM.c4i.eq_def (And.intro @Go.FM.nilV.eq_def (And.intro @Go.FM.putD.eq_def (And.intro @Go.FM.a2t.eq_def (And.intro @Go.FM.a3q.eq_def (And.intro @Go.FM.b1e.eq_1 (And.intro @Go.FM.b1e.eq_2 (And.intro @Go.FM.a5m.eq_def (And.intro @Go.FM.b7p.eq_def (And.intro @Go.FM.resV.eq_def (And.intro @Go.FM.resL.eq_1 (And.intro @Go.FM.resL.eq_2 (And.intro @Go.FM.a4i.eq_def (And.intro @Go.FM.StK.eq_def (And.intro @Go.FM.b4l (And.intro @Go.FM.b2c (And.intro @Go.FM.e1a (And.intro @Go.FM.e1b (And.intro @Go.FM.c8b (And.intro @Go.FM.c8c (And.intro @Go.FM.c2b.eq_def (And.intro @Go.FM.HG_t (And.intro @Go.FM.HG_f (And.intro @Go.FM.e0y (And.intro @Go.FM.e0z (And.intro @Go.FM.nl.eq_1 (And.intro @Go.FM.nl.eq_2 (And.intro @Go.FM.nl.eq_3 (And.intro @Go.FM.nl.eq_4 (And.intro @Go.FM.nl.eq_5 (And.intro @Go.FM.nl.eq_6 (And.intro @Go.FM.nl.eq_7 (And.intro @Go.FM.nl.eq_8 (And.intro @Go.FM.nl.eq_9 (And.intro @Go.FM.nl.eq_10 (And.intro @Go.FM.nl.eq_11 (And.intro @Go.FM.nl.eq_12 (And.intro @Go.FM.nl.eq_13 (And.intro @Go.FM.nl.eq_14 (And.intro @Go.FM.nl.eq_15 (And.intro @Go.FM.nl.eq_16 (And.intro @Go.FM.nl.eq_17 (And.intro @Go.FM.nls.eq_1 (And.intro @Go.FM.nls.eq_2 (And.intro @Go.FM.nlss.eq_1 (And.intro @Go.FM.nlss.eq_2 (And.intro @Go.FM.frz.eq_1 (And.intro @Go.FM.frz.eq_2 (And.intro @Go.FM.frz.eq_3 (And.intro @Go.FM.frz.eq_4 (And.intro @Go.FM.frz.eq_5 (And.intro @Go.FM.frzs.eq_1 (And.intro @Go.FM.frzs.eq_2 (And.intro @Go.FM.frzs.eq_3 (And.intro @Go.FM.frzR.eq_1 (And.intro @Go.FM.frzR.eq_2 (And.intro @Go.FM.frzR.eq_3 (And.intro @e2d (And.intro @Go.FM.asR.eq_1 (And.intro @Go.FM.asR.eq_2 (And.intro @Go.FM.asR.eq_3 (And.intro @Go.FM.asR.eq_4 (And.intro @Go.FM.asRs.eq_1 (And.intro @Go.FM.asRs.eq_2 (And.intro @Go.FM.Fend.eq_def (And.intro @Go.FM.c7x (And.intro @Go.FM.b5d (And.intro @Go.FM.b2u (And.intro @Go.FM.frzN.eq_def (And.intro @Go.FM.nf.eq_1 (And.intro @Go.FM.nf.eq_2 (And.intro @Go.FM.nf.eq_3 (And.intro @Go.FM.nf.eq_4 (And.intro @Go.FM.nf.eq_5 (And.intro @Go.FM.nf.eq_6 (And.intro @Go.FM.nf.eq_7 (And.intro @Go.FM.nf.eq_8 (And.intro @Go.FM.nf.eq_9 (And.intro @Go.FM.nf.eq_10 (And.intro @Go.FM.nf.eq_11 (And.intro @Go.FM.nf.eq_12 (And.intro @Go.FM.nf.eq_13 (And.intro @Go.FM.nf.eq_14 (And.intro @Go.FM.nf.eq_15 (And.intro @Go.FM.nf.eq_16 (And.intro @Go.FM.nf.eq_17 (And.intro @Go.FM.nfs.eq_1 (And.intro @Go.FM.nfs.eq_2 (And.intro @Go.FM.a9k.eq_def (And.intro @Go.FM.b3p.eq_def (And.intro @Go.FM.a2g (And.intro @Go.FM.a1t (And.intro @Go.FM.b1b (And.intro @Go.FM.a4r (And.intro @Go.FM.b7i (And.intro @Go.FM.a2d (And.intro @Go.FM.a1w (And.intro @Go.FM.b0o (And.intro @Go.FM.a8z (And.intro @Go.FM.a1u (And.intro @Go.FM.b3o.eq_def (And.intro @Go.FM.lpS.eq_def (And.intro @Go.FM.b9i (And.intro @Go.FM.b5q (And.intro @List.set_cons_zero.{0} (And.intro @List.set_cons_succ.{0} (And.intro @Go.FM.b5r (And.intro @Go.FM.b3c (And.intro @Go.FM.c0r (And.intro @Go.FM.b7a (And.intro @Go.FM.c0q (And.intro @Go.FM.a9c.eq_def (And.intro @List.cons.injEq.{0} (@List.contains_cons.{0}))))))))))))))))))))))))))))))))))))))))))))))))))))))))))))))))))))))))))))))))))))))))))))))))))))))))))))))))))))))))))))))))))))))))))))))))))))))))))))))))))))))))))))))))
def DEFM := And.intro @Go.FM.a0n (And.intro @Go.FM.Fs.init.eq_def (And.intro @Go.FM.Fs.get.eq_def (And.intro @Go.FM.Fs.put.eq_def (And.intro @Go.FM.Fs.clean.eq_def (And.intro @Go.FM.lk.eq_1 (And.intro @Go.FM.lk.eq_2 (And.intro @Go.FM.upd.eq_def (And.intro @Go.FM.ext.eq_def (And.intro @Go.FM.cv1.eq_def (And.intro @Go.FM.cv.eq_def (And.intro @Go.FM.rv.eq_def (And.intro @Go.FM.FV.isU.eq_def (And.intro @Go.FM.FV.cellV.eq_def (And.intro @Go.FM.FV.cellsL.eq_def (And.intro @Go.FM.FV.storable.eq_def (And.intro @Go.FM.b4i.eq_def (And.intro @Go.FM.b6w.eq_def (And.intro @Go.FM.b6v.eq_def (And.intro @Go.FM.fLen.eq_def (And.intro @Go.FM.fBin.eq_def (And.intro @Go.FM.fUn.eq_def (And.intro @Go.FM.c4g.eq_def (And.intro @Go.FM.b7o.eq_def (And.intro @Go.FM.b6u.eq_def (And.intro @Go.FM.a8s.eq_1 (And.intro @Go.FM.a8s.eq_2 (And.intro @Go.FM.b2x.eq_1 (And.intro @Go.FM.b2x.eq_2 (And.intro @Go.FM.pv.eq_def (And.intro @Go.FM.pv1.eq_def (And.intro @Go.FM.pv2.eq_def (And.intro @Go.FM.wv.eq_def (And.intro @Go.FM.b3w.eq_def (And.intro @Go.FM.wBox.eq_def (And.intro @Go.FM.b3u.eq_def (And.intro @Go.FM.a7z.eq_def (And.intro @Go.FM.b3v.eq_def (And.intro @Go.FM.b2d.eq_def (And.intro @Go.FM.wApp.eq_def (And.intro @Go.FM.srcA.eq_def (And.intro @Go.FM.a7o.eq_1 (And.intro @Go.FM.a7o.eq_2 (And.intro @Go.FM.upds.eq_def (And.intro @List.foldl_cons.{0,0} (And.intro @List.foldl_nil.{0,0} (And.intro @Go.FM.fNil.eq_def (And.intro @Go.FM.fUn2.eq_def (And.intro @Go.FM.c4h.eq_def (And.intro @Go.FM.fCmp.eq_def (And.intro @Go.FM.c2g.eq_def (And.intro @Go.FM.eqK.eq_1 (And.intro @Go.FM.eqK.eq_2 (And.intro @Go.FM.a4p.eq_1 (And.intro @Go.FM.a4p.eq_2 (And.intro @Go.FM.a4p.eq_3 (And.intro @Go.FM.eqV.eq_1 (And.intro @Go.FM.eqV.eq_2 (And.intro @Go.FM.eqV.eq_3 (And.intro @Go.FM.eqV.eq_4 (And.intro @Go.FM.FV.kd.eq_def (And.intro @Go.FM.c4i.eq_def (And.intro @Go.FM.nilV.eq_def (And.intro @Go.FM.putD.eq_def (And.intro @Go.FM.a2t.eq_def (And.intro @Go.FM.a3q.eq_def (And.intro @Go.FM.b1e.eq_1 (And.intro @Go.FM.b1e.eq_2 (And.intro @Go.FM.a5m.eq_def (And.intro @Go.FM.b7p.eq_def (And.intro @Go.FM.resV.eq_def (And.intro @Go.FM.resL.eq_1 (And.intro @Go.FM.resL.eq_2 (And.intro @Go.FM.a4i.eq_def (And.intro @Go.FM.StK.eq_def (And.intro @Go.FM.b4l (And.intro @Go.FM.b2c (And.intro @Go.FM.e1a (And.intro @Go.FM.e1b (And.intro @Go.FM.c8b (And.intro @Go.FM.c8c (And.intro @Go.FM.c2b.eq_def (And.intro @Go.FM.HG_t (And.intro @Go.FM.HG_f (And.intro @Go.FM.e0y (And.intro @Go.FM.e0z (And.intro @Go.FM.nl.eq_1 (And.intro @Go.FM.nl.eq_2 (And.intro @Go.FM.nl.eq_3 (And.intro @Go.FM.nl.eq_4 (And.intro @Go.FM.nl.eq_5 (And.intro @Go.FM.nl.eq_6 (And.intro @Go.FM.nl.eq_7 (And.intro @Go.FM.nl.eq_8 (And.intro @Go.FM.nl.eq_9 (And.intro @Go.FM.nl.eq_10 (And.intro @Go.FM.nl.eq_11 (And.intro @Go.FM.nl.eq_12 (And.intro @Go.FM.nl.eq_13 (And.intro @Go.FM.nl.eq_14 (And.intro @Go.FM.nl.eq_15 (And.intro @Go.FM.nl.eq_16 (And.intro @Go.FM.nl.eq_17 (And.intro @Go.FM.nls.eq_1 (And.intro @Go.FM.nls.eq_2 (And.intro @Go.FM.nlss.eq_1 (And.intro @Go.FM.nlss.eq_2 (And.intro @Go.FM.frz.eq_1 (And.intro @Go.FM.frz.eq_2 (And.intro @Go.FM.frz.eq_3 (And.intro @Go.FM.frz.eq_4 (And.intro @Go.FM.frz.eq_5 (And.intro @Go.FM.frzs.eq_1 (And.intro @Go.FM.frzs.eq_2 (And.intro @Go.FM.frzs.eq_3 (And.intro @Go.FM.frzR.eq_1 (And.intro @Go.FM.frzR.eq_2 (And.intro @Go.FM.frzR.eq_3 (And.intro @e2d (And.intro @Go.FM.asR.eq_1 (And.intro @Go.FM.asR.eq_2 (And.intro @Go.FM.asR.eq_3 (And.intro @Go.FM.asR.eq_4 (And.intro @Go.FM.asRs.eq_1 (And.intro @Go.FM.asRs.eq_2 (And.intro @Go.FM.Fend.eq_def (And.intro @Go.FM.c7x (And.intro @Go.FM.b5d (And.intro @Go.FM.b2u (And.intro @Go.FM.frzN.eq_def (And.intro @Go.FM.nf.eq_1 (And.intro @Go.FM.nf.eq_2 (And.intro @Go.FM.nf.eq_3 (And.intro @Go.FM.nf.eq_4 (And.intro @Go.FM.nf.eq_5 (And.intro @Go.FM.nf.eq_6 (And.intro @Go.FM.nf.eq_7 (And.intro @Go.FM.nf.eq_8 (And.intro @Go.FM.nf.eq_9 (And.intro @Go.FM.nf.eq_10 (And.intro @Go.FM.nf.eq_11 (And.intro @Go.FM.nf.eq_12 (And.intro @Go.FM.nf.eq_13 (And.intro @Go.FM.nf.eq_14 (And.intro @Go.FM.nf.eq_15 (And.intro @Go.FM.nf.eq_16 (And.intro @Go.FM.nf.eq_17 (And.intro @Go.FM.nfs.eq_1 (And.intro @Go.FM.nfs.eq_2 (And.intro @Go.FM.a9k.eq_def (And.intro @Go.FM.b3p.eq_def (And.intro @Go.FM.a2g (And.intro @Go.FM.a1t (And.intro @Go.FM.b1b (And.intro @Go.FM.a4r (And.intro @Go.FM.b7i (And.intro @Go.FM.a2d (And.intro @Go.FM.a1w (And.intro @Go.FM.b0o (And.intro @Go.FM.a8z (And.intro @Go.FM.a1u (And.intro @Go.FM.b3o.eq_def (And.intro @Go.FM.lpS.eq_def (And.intro @Go.FM.b9i (And.intro @Go.FM.b5q (And.intro @List.set_cons_zero.{0} (And.intro @List.set_cons_succ.{0} (And.intro @Go.FM.b5r (And.intro @Go.FM.b3c (And.intro @Go.FM.c0r (And.intro @Go.FM.b7a (And.intro @Go.FM.c0q (And.intro @Go.FM.a9c.eq_def (And.intro @List.cons.injEq.{0} (@List.contains_cons.{0}))))))))))))))))))))))))))))))))))))))))))))))))))))))))))))))))))))))))))))))))))))))))))))))))))))))))))))))))))))))))))))))))))))))))))))))))))))))))))))))))))))))))))))))
end Go.Je
namespace Go.Je
open Go Go.FM Go.Gv Go.Proofs
set_option maxRecDepth 100000
set_option maxHeartbeats 40000000
theorem f3m (a b : List Int) (ha : a.length <= 1000000000) : PC Tryz.prog Gl 22 [.list 1 (ints a), .list 1 (ints b)] (.bool (decide (a = b))) := by
 by_cases hab : a.length = b.length
 all_goals
  refine a6n (res := [.tmp 4]) 6 26 [] (fun d ix => 0 :: d :: ix) (fn := Tryz.f22) (by kernel_rfl) (by rfl) (by rfl) (by rfl) (by simp) (by decide) ?_
  repeat' first
   | ((with_reducible refine a2c ?_); refine a3f (σ := {i : Nat // i <= a.length /\ eqTo a b i}) (fun y => [(5, .int .i64 (y.1 : Int))]) [] (fun y => []) [] (fun y => []) (fun y => noH) (fun y => a.length - y.1) ⟨0, by simp, g1h a b⟩ (gk3 (j := 0) [] (Bs.pc _) ?_ ?_ ?_ ?_ ?_ ?_ ?_) ?_; (iterate 7 (focus (first | rfl | (simp [LPXB, *, SIMB, hdN, injB]; done)))); rintro ⟨i, hi, hk⟩; simp only [lpS, LPXB]; (try dsimp only at hi hk); rcases a1y hi with hlt | ⟨hlt, rfl⟩; have hlt2 : i < b.length := (by omega); have wi := wli hlt (by omega); by_cases he : (a[i]'hlt) = (b[i]'hlt2))
   | ((with_reducible refine a1m ?_); refine a2a (⟨i + 1, by omega, g1g hk hlt hlt2 he⟩) (gk3 (j := 0) [] (Bs.pc _) ?_ ?_ ?_ ?_ ?_ ?_ ?_) ?_; (iterate 7 (focus (first | rfl | (simp [LPXB, *, SIMB, hdN, injB]; done)))); (focus (dsimp only; omega)))
   | with_reducible first | refine a3m (id := 6) 9 a1v (by kernel_rfl) fun K hK => ?_ | refine stp ?_ | refine stpK ?_; intro K hK | refine stpC ?_; intro T E hT hE | refine stp2 ?_ ?_ <;> intro h | refine a0x rfl ?_ | refine a1a rfl (Nat.le_of_ble_eq_true rfl) a0z ?_ | refine a1a rfl (Nat.le_of_ble_eq_true rfl) (a0y (by simp [HPXB, ext, upd, *])) ?_ | refine a2i (by decide) (by kernel_rfl) ?_ | refine a1j (by decide) ?_ | refine Kont.go hK ?_; clear hK K | refine KT.go hT ?_; clear hT hE T E | refine KT.go hE ?_; clear hT hE T E
   | simp [*, -List.all_flatten, -List.all_eq_true, DEFB, LENB, e5p]
  all_goals first
   | (have e := g8q hlt hlt2 he; simp [e]; done)
   | (have e := d9z hab hk; simp [e]; done)
   | (have e : ¬ a = b := fun e => hab (by rw [e]); simp [e]; done)
   | trace_state
@[simp] theorem b1a : Program.eqGuardType Tryz.prog (Program.depth Tryz.prog) 36 = Bool.false := by kernel_rfl
@[simp] theorem f2q : b7q Tryz.prog 36 = Bool.false := by kernel_rfl
@[simp] theorem f9k : fnOk Tryz.prog 58 = Bool.true := by kernel_rfl
@[simp] theorem g0a : fnOk Tryz.prog 33 = Bool.true := by kernel_rfl
@[simp] theorem f2n : fnOk Tryz.prog 104 = Bool.true := by kernel_rfl
@[simp] theorem f2m : fnOk Tryz.prog 107 = Bool.true := by kernel_rfl
@[simp] theorem f2l : fnOk Tryz.prog 108 = Bool.true := by kernel_rfl
@[simp] theorem f2k : fnOk Tryz.prog 109 = Bool.true := by kernel_rfl
@[simp] theorem f1m : fnOk Tryz.prog 150 = Bool.true := by kernel_rfl
@[simp] theorem f1w : fnOk Tryz.prog 132 = Bool.true := by kernel_rfl
@[simp] theorem f8j : intT Tryz.prog 36 = Option.none := by kernel_rfl
@[simp] theorem g5e : kdT Tryz.prog 36 = Option.none := by kernel_rfl
@[simp] theorem f7u : nilT Tryz.prog 36 = (Option.some Go.FM.NK.sl) := by kernel_rfl
@[simp] theorem f7p : slT Tryz.prog 131 = Option.none := by kernel_rfl
@[simp] theorem g3t : stT Tryz.prog 36 = Option.none := by kernel_rfl
@[simp] theorem f0r : strT Tryz.prog 131 = Bool.false := by kernel_rfl
@[simp] theorem f6s : szT Tryz.prog 141 = (Option.some 1) := by kernel_rfl
end Go.Je
namespace Go.Gv
open Go Go.FM
set_option maxRecDepth 100000
set_option maxHeartbeats 40000000
structure Least (p : Pg) (x : Pts) : Prop where
 form : Form p x
 conds : a5w p x
 least : ∀ z, a5w p z -> z.sites = a0t p -> sub x z
theorem c1x {p : Pg} {x y : Pts} (hx : Form p x) (hy : Form p y) (h : sub x y) : le x y := by
 refine ⟨h.1, by rw [hx.cn, hy.cn], by rw [hx.rn, hy.rn], fun f => ?_, fun f a o ho => a8y h f a o ho, fun c o ho => b5m h c o ho⟩
 rw [List.getD_eq_getElem?_getD, List.getD_eq_getElem?_getD]
 by_cases hf : f < p.funcs.length
 . have h1 : f < x.regs.length := by rw [hx.rn]; exact hf
   have h2 : f < y.regs.length := by rw [hy.rn]; exact hf
   rw [List.getElem?_eq_getElem h1, List.getElem?_eq_getElem h2, Option.getD_some, Option.getD_some]
   have := hx.fn f h1 hf
   have := hy.fn f h2 hf
   omega
 . rw [List.getElem?_eq_none (l := x.regs) (by rw [hx.rn]; omega), List.getElem?_eq_none (l := y.regs) (by rw [hy.rn]; omega)]
theorem Least.unique {p : Pg} {x y : Pts} (hx : Least p x) (hy : Least p y) : x = y :=
 le.anti hx.form hy.form (c1x hx.form hy.form (hx.least y hy.conds hy.form.sites)) (c1x hy.form hx.form (hy.least x hx.conds hx.form.sites))
theorem a9l : ∀ (b a : List Int), inc a -> inc b -> (∀ x ∈ a, x ∈ b) -> List.Sublist a b
 | [], a, _, _, h => by
   cases a with
   | nil => exact List.Sublist.refl _
   | cons d a => exact absurd (h d (by simp)) (by simp)
 | c :: b, [], _, _, _ => List.nil_sublist _
 | c :: b, d :: a, ha, hb, h => by
   obtain ⟨ha1, ha2⟩ := List.pairwise_cons.1 ha
   obtain ⟨hb1, hb2⟩ := List.pairwise_cons.1 hb
   by_cases e : d = c
   . subst e
     refine List.Sublist.cons_cons _ (a9l b a ha2 hb2 fun x hx => ?_)
     rcases List.mem_cons.1 (h x (by simp [hx])) with e | e
     . have := ha1 x hx; omega
     . exact e
   . have hd : d ∈ b := by
      rcases List.mem_cons.1 (h d (by simp)) with e' | e'
      . exact absurd e' e
      . exact e'
     have hcd := hb1 d hd
     refine List.Sublist.cons _ (a9l b (d :: a) ha hb2 fun x hx => ?_)
     rcases List.mem_cons.1 (h x hx) with e' | e'
     . rcases List.mem_cons.1 hx with e2 | e2
       . exact absurd (e2.symm.trans e') e
       . have := ha1 x e2; omega
     . exact e'
theorem b9y : ∀ (a b : List (List Int)), a.length = b.length -> (∀ i (h : i < a.length) (h' : i < b.length), List.Sublist a[i] b[i]) -> lens a <= lens b /\ (lens a = lens b -> a = b)
 | [], [], _, _ => ⟨Nat.le_refl _, fun _ => rfl⟩
 | [], _ :: _, h, _ => by simp at h
 | _ :: _, [], h, _ => by simp at h
 | a :: az, b :: bs, hl, h => by
   have h0 : List.Sublist a b := h 0 (by simp) (by simp)
   have ih := b9y az bs (by simpa using hl) fun i h1 h2 => h (i + 1) (by simp; omega) (by simp; omega)
   have hle := h0.length_le
   have e1 : lens (a :: az) = a.length + lens az := by simp [lens]
   have e2 : lens (b :: bs) = b.length + lens bs := by simp [lens]
   refine ⟨by omega, fun e => ?_⟩
   have := ih.1
   rw [h0.eq_of_length (by omega), ih.2 (by omega)]
theorem c1w : ∀ (a b : List (List (List Int))), a.length = b.length -> (∀ i (h : i < a.length) (h' : i < b.length), lens a[i] <= lens b[i] /\ (lens a[i] = lens b[i] -> a[i] = b[i])) -> (a.map lens).sum <= (b.map lens).sum /\ ((a.map lens).sum = (b.map lens).sum -> a = b)
 | [], [], _, _ => ⟨Nat.le_refl _, fun _ => rfl⟩
 | [], _ :: _, h, _ => by simp at h
 | _ :: _, [], h, _ => by simp at h
 | a :: az, b :: bs, hl, h => by
   have h0 : lens a <= lens b /\ (lens a = lens b -> a = b) := h 0 (by simp) (by simp)
   have ih := c1w az bs (by simpa using hl) fun i h1 h2 => h (i + 1) (by simp; omega) (by simp; omega)
   have e1 : ((a :: az).map lens).sum = lens a + (az.map lens).sum := by simp
   have e2 : ((b :: bs).map lens).sum = lens b + (bs.map lens).sum := by simp
   have := ih.1
   have := h0.1
   refine ⟨by omega, fun e => ?_⟩
   rw [h0.2 (by omega), ih.2 (by omega)]
theorem d1k {x : Pts} {f a : Nat} (hf : f < x.regs.length) (ha : a < x.regs[f].length) : rg x f (a : Int) = x.regs[f][a] := by
 unfold rg
 rw [List.getD_eq_getElem?_getD, List.getD_eq_getElem?_getD, List.getElem?_eq_getElem hf, Option.getD_some, Int.toNat_natCast, List.getElem?_eq_getElem ha, Option.getD_some]
theorem e8r {x : Pts} {o : Nat} (ho : o < x.cells.length) : cl x (o : Int) = x.cells[o] := by
 unfold cl
 rw [List.getD_eq_getElem?_getD, Int.toNat_natCast, List.getElem?_eq_getElem ho, Option.getD_some]
theorem e4p {p : Pg} {x y : Pts} (hx : Form p x) (hy : Form p y) (h : le x y) : b0c x <= b0c y /\ (¬ x = y -> b0c x < b0c y) := by
 have hr := c1w x.regs y.regs (by rw [h.rn]) fun f h1 h2 => by
  have hl : x.regs[f].length = y.regs[f].length := by
   have := h.fn f
   rw [List.getD_eq_getElem?_getD, List.getD_eq_getElem?_getD, List.getElem?_eq_getElem h1, List.getElem?_eq_getElem h2] at this
   exact this.symm
  exact b9y _ _ hl fun a g1 g2 => by
   have := h.rs f (a : Int)
   rw [d1k h1 g1, d1k h2 g2] at this
   exact a9l _ _ (hx.rs f h1 _ (List.getElem_mem g1)).1 (hy.rs f h2 _ (List.getElem_mem g2)).1 this
 have hc := b9y x.cells y.cells (by rw [h.cn]) fun o g1 g2 => by
  have := h.cs (o : Int)
  rw [e8r g1, e8r g2] at this
  exact a9l _ _ (hx.cs _ (List.getElem_mem g1)).1 (hy.cs _ (List.getElem_mem g2)).1 this
 have h1 := hr.1
 have h2 := hc.1
 refine ⟨by unfold b0c; omega, fun hne => ?_⟩
 refine Nat.lt_of_le_of_ne (by unfold b0c; omega) fun e => hne ?_
 unfold b0c at e
 exact Pts.ext' h.sites.symm (hr.2 (by omega)) (hc.2 (by omega))
structure Rnd (p : Pg) (x : Pts) : Prop where
 form : Form p x
 least : ∀ z, a5w p z -> z.sites = a0t p -> sub x z
theorem c1l {p : Pg} (hp : VOk p) {x : Pts} (hx : Form p x) : Form p (b5w p x) /\ le x (b5w p x) := (c6p hp p.funcs.length (Nat.le_refl _)).1 x hx
theorem Rnd.next {p : Pg} (hp : VOk p) {x : Pts} (h : Rnd p x) : Rnd p (b5w p x) :=
 ⟨(c1l hp h.form).1, fun z hz hs => c8r hp hz (h.least z hz hs)⟩
theorem Rnd.fin {p : Pg} (hp : a3g p = true) {x : Pts} (h : Rnd p x) (e : x = b5w p x) : Least p x := ⟨h.form, (d7z hp h.form).1 e.symm, h.least⟩
theorem Form.size {p : Pg} {x : Pts} (hp : VOk p) (h : Form p x) : b0c x <= (p.funcs.length * 64 + (a0t p).length) * (a0t p).length := c5l h.shp fun f hf => (hp.regs hf).r64
def muR (p : Pg) (x : Pts) : Nat := (p.funcs.length * 64 + (a0t p).length) * (a0t p).length - b0c x
theorem Rnd.mu {p : Pg} (hp : VOk p) {x : Pts} (h : Rnd p x) (e : ¬ x = b5w p x) : muR p (b5w p x) < muR p x := by
 have h1 := c1l hp h.form
 have := (e4p h.form h1.1 h1.2).2 e
 have := h1.1.size hp
 unfold muR; omega
def srt (l : List Int) : List Int := l.mergeSort fun a b => decide (a <= b)
theorem b6a {l : List Int} {o : Int} : o ∈ srt l ↔ o ∈ l := List.mem_mergeSort
theorem c3c : srt [] = [] := by simp [srt]
theorem a6u (l : List Int) : (srt l).length = l.length := List.length_mergeSort l
theorem e4n {l : List Int} (h : l.Nodup) : inc (srt l) := by
 have h1 : (srt l).Pairwise (fun a b => a <= b) := by
  have := List.pairwise_mergeSort (le := fun a b : Int => decide (a <= b)) (fun a b c h1 h2 => by simp only [decide_eq_true_eq] at *; omega) (fun a b => by simp only [Bool.or_eq_true, decide_eq_true_eq]; omega) l
  exact this.imp fun h => by simpa using h
 have h2 : (srt l).Nodup := (List.mergeSort_perm l _).nodup_iff.2 h
 have h3 := List.pairwise_and_iff.2 ⟨h1, h2⟩
 exact h3.imp fun ⟨h1, h2⟩ => by omega
def a8o (y : Pts) : Pts := ⟨y.sites, y.regs.map (·.map srt), y.cells.map srt⟩
theorem d1j (y : Pts) (f : Nat) (a : Int) : rg (a8o y) f a = srt (rg y f a) := by
 unfold rg a8o
 simp only [List.getD_eq_getElem?_getD, List.getElem?_map]
 cases y.regs[f]? with
 | none => simp [c3c]
 | some r =>
   simp only [Option.map_some, Option.getD_some, List.getElem?_map]
   cases r[a.toNat]? <;> simp [c3c]
theorem d5f (y : Pts) (o : Int) : cl (a8o y) o = srt (cl y o) := by
 unfold cl a8o
 simp only [List.getD_eq_getElem?_getD, List.getElem?_map]
 cases y.cells[o.toNat]? <;> simp [c3c]
theorem b9d (y : Pts) : sub (a8o y) y /\ sub y (a8o y) := by
 refine ⟨⟨rfl, fun t o ho => ?_⟩, ⟨rfl, fun t o ho => ?_⟩⟩
 . cases t with
   | r f a => have ho : o ∈ rg (a8o y) f (a : Int) := ho; rw [d1j] at ho; exact b6a.1 ho
   | c b => have ho : o ∈ cl (a8o y) (b : Int) := ho; rw [d5f] at ho; exact b6a.1 ho
 . cases t with
   | r f a => show o ∈ rg (a8o y) f (a : Int); rw [d1j]; exact b6a.2 ho
   | c b => show o ∈ cl (a8o y) (b : Int); rw [d5f]; exact b6a.2 ho
theorem c2i {p : Pg} (hp : VOk p) {x y : Pts} (h : sub x y) (h' : sub y x) : a5w p x ↔ a5w p y := by
 have hr : ∀ f a o, o ∈ rg x f a ↔ o ∈ rg y f a := fun f a o => ⟨a8y h f a o, a8y h' f a o⟩
 have hc : ∀ c o, o ∈ cl x c ↔ o ∈ cl y c := fun c o => ⟨b5m h c o, b5m h' c o⟩
 have hf : ∀ o k, k ∈ a5u p x o ↔ k ∈ a5u p y o := fun o k => ⟨b2t hp h k, b2t hp h' k⟩
 have key : ∀ f pc n, a3z p f pc n x ↔ a3z p f pc n y := fun f pc n => by
  unfold a3z
  simp only [subR, hr, hc, hf]
 unfold a5w
 simp only [key]
theorem okA.srt {n : Nat} {l : List Int} (h : okA n l) : okS n (srt l) := ⟨e4n h.1, fun x hx => h.2 x (b6a.1 hx)⟩
theorem d0w {p : Pg} {y : Pts} (h : Shp p y) : Form p (a8o y) := by
 refine ⟨h.sites, by simp [a8o, h.cn], by simp [a8o, h.rn], fun f h1 h2 => ?_, fun f h1 s hs => ?_, fun s hs => ?_⟩
 . have h3 : f < y.regs.length := by simpa [a8o] using h1
   have := h.fn f h3 h2
   simpa [a8o] using this
 . have h3 : f < y.regs.length := by simpa [a8o] using h1
   have hs : s ∈ y.regs[f].map Gv.srt := by simpa [a8o] using hs
   obtain ⟨t, ht, rfl⟩ := List.mem_map.1 hs
   exact (h.rs f h3 t ht).srt
 . obtain ⟨t, ht, rfl⟩ := List.mem_map.1 hs
   exact (h.cs t ht).srt
structure Crd (p : Pg) (y : Pts) : Prop where
 shp : Shp p y
 least : ∀ z, a5w p z -> z.sites = a0t p -> sub y z
theorem Crd.step {p : Pg} {y y' : Pts} {b' : Bool} (h : Crd p y) (hs : Shp p y') (ht : TR false (a5w p) (a5w p) y false y' b') : Crd p y' :=
 ⟨hs, fun z hz e => ht.least z hz (h.least z hz e)⟩
theorem Crd.fin {p : Pg} (hp : VOk p) {y y' : Pts} (h : Crd p y) (ht : TR false (a5w p) (a5w p) y false y' false) : y' = y /\ Least p (a8o y) := by
 obtain ⟨_, h1, h2⟩ := ht.good rfl
 refine ⟨h1, d0w h.shp, (c2i hp (b9d y).1 (b9d y).2).2 h2, fun z hz e => (b9d y).1.trans (h.least z hz e)⟩
theorem Crd.mu {p : Pg} (hp : VOk p) {y y' : Pts} (hs : Shp p y') (ht : TR false (a5w p) (a5w p) y false y' true) : muR p y' < muR p y := by
 rcases ht.prog rfl with ⟨_, h⟩ | ⟨h, _⟩
 . cases h
 . have := c5l hs fun f hf => (hp.regs hf).r64
   unfold muR; omega
def mk1 (l : List Bool) (o : Int) : List Bool := l.set o.toNat true
def mkL (l : List Bool) (s : List Int) : List Bool := s.foldl mk1 l
def isM (l : List Bool) (o : Int) : Prop := 0 <= o /\ l[o.toNat]? = some true
theorem b3j (l : List Bool) (o : Int) : (mk1 l o).length = l.length := by simp [mk1]
theorem b1w : ∀ (s : List Int) (l : List Bool), (mkL l s).length = l.length
 | [], _ => rfl
 | o :: s, l => by
   show (mkL (mk1 l o) s).length = _
   rw [b1w s, b3j]
theorem c8v (l : List Bool) (a b : List Int) : mkL l (a ++ b) = mkL (mkL l a) b := by simp [mkL, List.foldl_append]
theorem c0b {l : List Bool} {o v : Int} (h0 : 0 <= o) (h1 : o < (l.length : Int)) : isM (mk1 l o) v ↔ isM l v \/ v = o := by
 unfold isM mk1
 rw [List.getElem?_set]
 by_cases e : o.toNat = v.toNat
 . rw [if_pos e, if_pos (by omega)]
   constructor
   . rintro ⟨h, _⟩; right; omega
   . rintro (h | h)
     . exact ⟨h.1, rfl⟩
     . exact ⟨by omega, rfl⟩
 . rw [if_neg e]
   constructor
   . exact .inl
   . rintro (h | h)
     . exact h
     . subst h; exact absurd rfl e
theorem isM_mkL {v : Int} : ∀ (s : List Int) (l : List Bool), (∀ o ∈ s, 0 <= o /\ o < (l.length : Int)) -> (isM (mkL l s) v ↔ isM l v \/ v ∈ s)
 | [], l, _ => by simp [mkL]
 | o :: s, l, h => by
   have h1 := h o (by simp)
   have ih := isM_mkL (v := v) s (mk1 l o) fun a ha => by rw [b3j]; exact h a (by simp [ha])
   show isM (mkL (mk1 l o) s) v ↔ _
   rw [ih, c0b h1.1 h1.2, List.mem_cons, or_assoc]
theorem c1y {l : List Bool} {o : Int} (h : isM l o) : o < (l.length : Int) := by
 have := (List.getElem?_eq_some_iff.1 h.2).1
 have := h.1
 omega
theorem b8j {l : List Bool} {o : Nat} (h : o < l.length) : isM l (o : Int) ↔ l[o] = true := by
 unfold isM
 rw [Int.toNat_natCast, List.getElem?_eq_getElem h]
 simp
theorem c7s {a b : List Bool} (hl : a.length = b.length) (h : ∀ v, isM a v ↔ isM b v) : a = b := by
 refine List.ext_getElem hl fun i h1 h2 => ?_
 have := h (i : Int)
 rw [b8j h1, b8j h2] at this
 exact Bool.eq_iff_iff.2 this
def rtK (x : Pts) (f : Nat) (n : Ins) (k : Nat) : List Int := (List.range k).flatMap fun (i : Nat) => rg x f (n.c + i)
def rtI (p : Pg) (x : Pts) (f : Nat) (n : Ins) : List Int := if n.op = 31 then rtK x f n (a5j p.funcs n.b).toNat else if n.op = 32 then rg x f n.a else []
def rtQ (p : Pg) (x : Pts) (f : Nat) (code : List Ins) (j : Nat) : List Int := (code.take j).flatMap (rtI p x f)
def rtP (p : Pg) (x : Pts) : Nat -> List Int
 | 0 => [0]
 | i + 1 => rtP p x i ++ (match p.funcs[i]? with | some fn => rtQ p x i fn.code fn.code.length | none => [])
def rtA (p : Pg) (x : Pts) : List Int := rtP p x p.funcs.length
theorem g7s {p : Pg} {x : Pts} (hx : Form p x) {f : Nat} {n : Ins} {k : Nat} : ∀ o ∈ rtK x f n k, 0 <= o /\ o < ((a0t p).length : Int) := fun o ho => by
 obtain ⟨i, _, h⟩ := List.mem_flatMap.1 ho
 exact hx.regB f _ o h
theorem g7t {p : Pg} {x : Pts} (hx : Form p x) {f : Nat} {n : Ins} : ∀ o ∈ rtI p x f n, 0 <= o /\ o < ((a0t p).length : Int) := fun o ho => by
 unfold rtI at ho
 split at ho
 . exact g7s hx o ho
 . split at ho
   . exact hx.regB f _ o ho
   . cases ho
theorem g7r {p : Pg} {x : Pts} (hx : Form p x) {f : Nat} {code : List Ins} {j : Nat} : ∀ o ∈ rtQ p x f code j, 0 <= o /\ o < ((a0t p).length : Int) := fun o ho => by
 obtain ⟨n, _, h⟩ := List.mem_flatMap.1 ho
 exact g7t hx o h
theorem e4u {p : Pg} {x : Pts} (hx : Form p x) : ∀ i, ∀ o ∈ rtP p x i, 0 <= o /\ o < ((a0t p).length : Int)
 | 0, o, ho => by
   have := b0d p
   rw [rtP, List.mem_singleton] at ho; subst ho; omega
 | i + 1, o, ho => by
   rw [rtP, List.mem_append] at ho
   rcases ho with ho | ho
   . exact e4u hx i o ho
   . cases h : p.funcs[i]? with
     | none => rw [h] at ho; cases ho
     | some fn => rw [h] at ho; exact g7r hx o ho
theorem c9m (p : Pg) (x : Pts) : ∀ i, (0 : Int) ∈ rtP p x i
 | 0 => by simp [rtP]
 | i + 1 => by rw [rtP, List.mem_append]; exact .inl (c9m p x i)
theorem g8j {n : Nat} {l : List Int} (h : okS n l) : l.length <= n := e6i h.1 h.2
inductive Rch (p : Pg) (x : Pts) : Int -> Prop
 | root {o : Int} : o ∈ rtA p x -> Rch p x o
 | cell {o v : Int} : Rch p x o -> v ∈ cl x o -> Rch p x v
theorem Rch.bd {p : Pg} {x : Pts} (hx : Form p x) {o : Int} (h : Rch p x o) : 0 <= o /\ o < ((a0t p).length : Int) := by
 induction h with
 | root h => exact e4u hx _ _ h
 | cell _ h => exact hx.cellB _ _ h
open Classical in
noncomputable def rchL (p : Pg) (x : Pts) : List Bool := (List.range (a0t p).length).map fun (o : Nat) => decide (Rch p x (o : Int))
theorem c5t (p : Pg) (x : Pts) : (rchL p x).length = (a0t p).length := by simp [rchL]
theorem d8p {p : Pg} {x : Pts} (hx : Form p x) {o : Int} : isM (rchL p x) o ↔ Rch p x o := by
 constructor
 . intro h
   have h1 := c1y h
   rw [c5t] at h1
   have h2 : o.toNat < (a0t p).length := by have := h.1; omega
   have h3 := h.2
   unfold rchL at h3
   rw [List.getElem?_map, List.getElem?_range h2] at h3
   have e : ((o.toNat : Nat) : Int) = o := by have := h.1; omega
   simp only [Option.map_some, e, Option.some.injEq, decide_eq_true_eq] at h3
   exact h3
 . intro h
   obtain ⟨h0, h1⟩ := h.bd hx
   have h2 : o.toNat < (a0t p).length := by omega
   have e : ((o.toNat : Nat) : Int) = o := by omega
   refine ⟨h0, ?_⟩
   unfold rchL
   rw [List.getElem?_map, List.getElem?_range h2]
   simp [e, h]
theorem b1r (n : Nat) (o : Int) : ¬ isM (List.replicate n false) o := fun h => by
 have := h.2
 rw [List.getElem?_replicate] at this
 split at this <;> simp at this
def wt (x : Pts) (l : List Bool) : Nat := ((List.range l.length).map fun (o : Nat) => if l[o]? = some true then 0 else (cl x (o : Int)).length + 1).sum
theorem d0q : ∀ (n : Nat) (f g : Nat -> Nat) (i : Nat), i < n -> (∀ j, j ≠ i -> g j = f j) -> ((List.range n).map g).sum + f i = ((List.range n).map f).sum + g i
 | 0, _, _, _, h, _ => by omega
 | n + 1, f, g, i, h, he => by
   rw [List.range_succ, List.map_append, List.map_append, List.sum_append, List.sum_append]
   simp only [List.map_cons, List.map_nil, List.sum_cons, List.sum_nil, Nat.add_zero]
   by_cases e : i = n
   . subst e
     have : (List.range i).map g = (List.range i).map f := by
      refine List.map_congr_left fun j hj => he j ?_
      rw [List.mem_range] at hj; omega
     rw [this]; omega
   . have ih := d0q n f g i (by omega) he
     have := he n (by omega)
     omega
def stkK (p : Pg) (x : Pts) : Nat := (rtA p x).length + wt x (List.replicate (a0t p).length false)
structure Dfs (p : Pg) (x : Pts) (l : List Bool) (sk : List Int) : Prop where
 len : l.length = (a0t p).length
 st : ∀ o ∈ sk, Rch p x o
 mkd : ∀ o, isM l o -> Rch p x o
 rt : ∀ o ∈ rtA p x, isM l o \/ o ∈ sk
 cs : ∀ o, isM l o -> ∀ v ∈ cl x o, isM l v \/ v ∈ sk
 bd : sk.length + wt x l <= stkK p x
theorem Dfs.init (p : Pg) (x : Pts) : Dfs p x (List.replicate (a0t p).length false) (rtA p x) :=
 ⟨by simp, fun _ h => .root h, fun o h => absurd h (b1r _ o), fun _ h => .inr h, fun o h => absurd h (b1r _ o), Nat.le_refl _⟩
theorem c2j {p : Pg} {x : Pts} (hx : Form p x) {l : List Bool} (hl : l.length = (a0t p).length) (hm : ∀ o, isM l o -> Rch p x o) (hr : ∀ o ∈ rtA p x, isM l o) (hc : ∀ o, isM l o -> ∀ v ∈ cl x o, isM l v) : l = rchL p x := by
 refine c7s (by rw [hl, c5t]) fun v => ?_
 rw [d8p hx]
 refine ⟨hm v, fun h => ?_⟩
 induction h with
 | root h => exact hr _ h
 | cell _ h ih => exact hc _ ih _ h
theorem Dfs.fin {p : Pg} {x : Pts} (hx : Form p x) {l : List Bool} (h : Dfs p x l []) : l = rchL p x :=
 c2j hx h.len h.mkd (fun o ho => (h.rt o ho).resolve_right (by simp)) fun o ho v hv => (h.cs o ho v hv).resolve_right (by simp)
def rdS (x : Pts) (l : List Bool) (k : Nat) : List Bool := (List.range k).foldl (fun l (o : Nat) => if l[o]? = some true then mkL l (cl x (o : Int)) else l) l
theorem d1q (x : Pts) (l : List Bool) (k : Nat) : rdS x l (k + 1) = if (rdS x l k)[k]? = some true then mkL (rdS x l k) (cl x (k : Int)) else rdS x l k := by
 unfold rdS
 rw [List.range_succ, List.foldl_append]
 rfl
theorem b1s (x : Pts) (l : List Bool) : ∀ k, (rdS x l k).length = l.length
 | 0 => rfl
 | k + 1 => by
   rw [d1q]
   split
   . rw [b1w]; exact b1s x l k
   . exact b1s x l k
theorem f4d {p : Pg} {x : Pts} (hx : Form p x) {l : List Bool} (hl : l.length = (a0t p).length) {v : Int} (k : Nat) (h : isM (rdS x l k) v) : isM (rdS x l (k + 1)) v := by
 rw [d1q]
 split
 . exact (isM_mkL _ _ fun o ho => by rw [b1s, hl]; exact hx.cellB _ o ho).2 (.inl h)
 . exact h
theorem b4r {p : Pg} {x : Pts} (hx : Form p x) {l : List Bool} (hl : l.length = (a0t p).length) {v : Int} (j : Nat) : ∀ k, j <= k -> isM (rdS x l j) v -> isM (rdS x l k) v
 | 0, hk, h => by rw [Nat.le_zero.1 hk] at h; exact h
 | k + 1, hk, h => by
   by_cases e : j = k + 1
   . rw [<- e]; exact h
   . exact f4d hx hl k (b4r hx hl j k (by omega) h)
theorem f4e {p : Pg} {x : Pts} (hx : Form p x) {l : List Bool} (hl : l.length = (a0t p).length) (hm : ∀ o, isM l o -> Rch p x o) : ∀ k v, isM (rdS x l k) v -> Rch p x v
 | 0, v, h => hm v h
 | k + 1, v, h => by
   have ih := f4e hx hl hm k
   rw [d1q] at h
   split at h
   . rename_i hk
     rcases (isM_mkL _ _ fun o ho => by rw [b1s, hl]; exact hx.cellB _ o ho).1 h with h | h
     . exact ih v h
     . exact .cell (ih (k : Int) ⟨by omega, by simpa using hk⟩) h
   . exact ih v h
def Cls (x : Pts) (l : List Bool) : Prop := ∀ o, isM l o -> ∀ v ∈ cl x o, isM l v
theorem d1r {p : Pg} {x : Pts} (hx : Form p x) {l : List Bool} (hl : l.length = (a0t p).length) (h : Cls x l) : ∀ k, rdS x l k = l
 | 0 => rfl
 | k + 1 => by
   rw [d1q, d1r hx hl h k]
   split
   . rename_i hk
     refine c7s (b1w _ _) fun v => ?_
     rw [isM_mkL _ _ fun o ho => by rw [hl]; exact hx.cellB _ o ho]
     exact ⟨fun hv => by
      rcases hv with hv | hv
      . exact hv
      . exact h (k : Int) ⟨by omega, by simpa using hk⟩ v hv, .inl⟩
   . rfl
theorem e8p {p : Pg} {x : Pts} (hx : Form p x) {l : List Bool} (hl : l.length = (a0t p).length) (h : rdS x l l.length = l) : Cls x l := fun o ho v hv => by
 have h1 := c1y ho
 have e : ((o.toNat : Nat) : Int) = o := by have := ho.1; omega
 have h2 : isM (rdS x l o.toNat) o := b4r hx hl 0 o.toNat (by omega) ho
 have h3 : isM (rdS x l (o.toNat + 1)) v := by
  rw [d1q, if_pos h2.2, e]
  exact (isM_mkL _ _ fun a ha => by rw [b1s, hl]; exact hx.cellB _ a ha).2 (.inr hv)
 have h4 := b4r hx hl (o.toNat + 1) l.length (by have := ho.1; omega) h3
 rw [h] at h4
 exact h4
theorem d5b : ∀ (a b : List Bool), a.length = b.length -> (∀ i (h : i < a.length) (h' : i < b.length), a[i] = true -> b[i] = true) -> a.count true <= b.count true /\ (a.count true = b.count true -> a = b)
 | [], [], _, _ => ⟨Nat.le_refl _, fun _ => rfl⟩
 | [], _ :: _, h, _ => by simp at h
 | _ :: _, [], h, _ => by simp at h
 | a :: az, b :: bs, hl, h => by
   have h0 : a = true -> b = true := h 0 (by simp) (by simp)
   have ih := d5b az bs (by simpa using hl) fun i h1 h2 => h (i + 1) (by simp; omega) (by simp; omega)
   have h1 := ih.1
   rw [List.count_cons, List.count_cons]
   cases a <;> cases b
   . simp
     exact ⟨h1, fun e => ih.2 e⟩
   . simp
     exact ⟨by omega, fun e => by omega⟩
   . exact absurd (h0 rfl) (by simp)
   . simp only [beq_self_eq_true, if_true]
     exact ⟨by omega, fun e => by rw [ih.2 (by omega)]⟩
structure Rds (p : Pg) (x : Pts) (l : List Bool) (r : Nat) : Prop where
 len : l.length = (a0t p).length
 mkd : ∀ o, isM l o -> Rch p x o
 rt : ∀ o ∈ rtA p x, isM l o
 go : Cls x l \/ r + 1 <= l.count true
def l0R (p : Pg) (x : Pts) : List Bool := mkL (List.replicate (a0t p).length false) (rtA p x)
theorem Rds.init {p : Pg} {x : Pts} (hx : Form p x) : Rds p x (l0R p x) 0 := by
 have hi : ∀ v, isM (l0R p x) v ↔ v ∈ rtA p x := fun v => by
  unfold l0R
  rw [isM_mkL _ _ fun o ho => by rw [List.length_replicate]; exact e4u hx _ o ho]
  exact ⟨fun h => h.resolve_left (b1r _ v), .inr⟩
 refine ⟨by rw [l0R, b1w, List.length_replicate], fun o h => .root ((hi o).1 h), fun o h => (hi o).2 h, .inr ?_⟩
 have h0 := ((hi 0).2 (c9m p x _)).2
 exact List.count_pos_iff.2 (List.mem_of_getElem? h0)
theorem Rds.next {p : Pg} {x : Pts} (hx : Form p x) {l : List Bool} {r : Nat} (h : Rds p x l r) : Rds p x (rdS x l l.length) (r + 1) := by
 have hup : ∀ v, isM l v -> isM (rdS x l l.length) v := fun v hv => b4r hx h.len 0 l.length (by omega) hv
 refine ⟨by rw [b1s]; exact h.len, f4e hx h.len h.mkd _, fun o ho => hup o (h.rt o ho), ?_⟩
 rcases h.go with hc | hc
 . rw [d1r hx h.len hc]; exact .inl hc
 . have hs := d5b l (rdS x l l.length) (b1s x l l.length).symm fun i h1 h2 hi => (b8j h2).1 (hup _ ((b8j h1).2 hi))
   by_cases e : l.count true = (rdS x l l.length).count true
   . have e2 := hs.2 e
     rw [<- e2]
     exact .inl (e8p hx h.len e2.symm)
   . exact .inr (by omega)
theorem Rds.fin {p : Pg} {x : Pts} (hx : Form p x) {l : List Bool} (h : Rds p x l (a0t p).length) : l = rchL p x := by
 refine c2j hx h.len h.mkd h.rt ?_
 rcases h.go with hc | hc
 . exact hc
 . have := List.count_le_length (a := true) (l := l)
   rw [h.len] at this
   omega
theorem c5p {p : Pg} {x z : Pts} (h : sub x z) : ∀ i, ∀ o ∈ rtP p x i, o ∈ rtP p z i
 | 0, o, ho => ho
 | i + 1, o, ho => by
   rw [rtP, List.mem_append] at ho ⊢
   rcases ho with ho | ho
   . exact .inl (c5p h i o ho)
   . right
     cases hq : p.funcs[i]? with
     | none => rw [hq] at ho; exact ho
     | some fn =>
       rw [hq] at ho
       obtain ⟨n, hn, h2⟩ := List.mem_flatMap.1 ho
       refine List.mem_flatMap.2 ⟨n, hn, ?_⟩
       unfold rtI at h2 ⊢
       split at h2
       . rename_i e
         rw [if_pos e]
         obtain ⟨k, hk, h3⟩ := List.mem_flatMap.1 h2
         exact List.mem_flatMap.2 ⟨k, hk, a8y h i _ o h3⟩
       . rename_i e
         rw [if_neg e]
         split at h2
         . rename_i e2
           rw [if_pos e2]; exact a8y h i _ o h2
         . cases h2
theorem Rch.mono {p : Pg} {x z : Pts} (h : sub x z) {o : Int} (hr : Rch p x o) : Rch p z o := by
 induction hr with
 | root hr => exact .root (c5p h _ _ hr)
 | cell _ hv ih => exact .cell ih (b5m h _ _ hv)
def p1 : Pg := ⟨[⟨⟨⟨[109, 97, 105, 110]⟩⟩, 0, 2, [⟨21, 0, 0, 0, 0⟩, ⟨21, 1, 0, 0, 0⟩, ⟨31, 0, 1, 0, 0⟩, ⟨30, -1, 0, 0, 0⟩]⟩, ⟨⟨⟨[102]⟩⟩, 1, 1, [⟨30, -1, 0, 0, 0⟩]⟩], [], [[0]], 0⟩
def x1 : Pts := ⟨[(0, 0), (0, 0), (0, 1)], [[[1], [2]], [[1]]], [[], [], []]⟩
def eAtF : List Ins -> Int -> Nat -> Int
 | _, e, 0 => e
 | [], e, _ + 1 => e
 | x :: r, e, i + 1 => eAtF r (if x.op = 50 then x.b else if 0 < e then e - 1 else e) i
theorem e2w : ∀ (l : List Ins) (e : Int) (i : Nat) (h : i < l.length), eAtF l e (i + 1) = if l[i].op = 50 then l[i].b else if 0 < eAtF l e i then eAtF l e i - 1 else eAtF l e i
 | [], _, _, h => by cases h
 | x :: r, e, 0, _ => by cases r <;> rfl
 | x :: r, e, i + 1, h => by
   show eAtF r _ (i + 1) = _
   rw [e2w r _ i (by simpa using h)]
   rfl
theorem d2q {p : Pg} {f : FnD} : ∀ (l : List Ins) (e : Int), 0 <= e -> e <= 8 -> a9j p f l e = true -> ∀ i (h : i < l.length), a7l p f l[i] = true /\ (0 < eAtF l e i ↔ l[i].op = 51) /\ 0 <= eAtF l e i /\ eAtF l e i <= 8
 | [], _, _, _, _, _, h => by cases h
 | x :: r, e, h0, h8, hl, i, h => by
   simp only [a9j] at hl
   split at hl
   case isFalse => cases hl
   rename_i he
   simp only [Bool.and_eq_true] at hl
   cases i with
   | zero => exact ⟨hl.1, by simpa [eAtF] using he, h0, h8⟩
   | succ i =>
     have hx := d8s hl.1
     have hb : x.op = 50 -> 0 <= x.b /\ x.b <= 8 := fun e5 => by
      have := hx.b
      rw [e5] at this
      simpa [opR, rR] using this
     have e1 : (if x.op = 50 then x.b else if 0 < e then W (e - 1) else e) = (if x.op = 50 then x.b else if 0 < e then e - 1 else e) := by
      rw [W_id (by omega) (by omega)]
     rw [e1] at hl
     refine d2q r _ ?_ ?_ hl.2 i (by simpa using h)
     . split
       . rename_i e5; exact (hb e5).1
       . split <;> omega
     . split
       . rename_i e5; exact (hb e5).2
       . split <;> omega
structure CodeOk (c : List Ins) : Prop where
 ne : 0 < c.length
 n1000 : c.length <= 1000
 h0 : ∀ h : 0 < c.length, c[0].op ≠ 51
 la : ∀ i (h : i < c.length), i + 1 = c.length -> c[i].op = 30 \/ c[i].op = 16
 fall : ∀ i (h : i + 1 < c.length), c[i].op ≠ 50 -> c[i].op ≠ 51 -> c[i + 1].op ≠ 51
 sel : ∀ i (h : i < c.length), c[i].op = 50 -> (0 <= c[i].b /\ c[i].b <= 8) /\ (∀ k : Nat, (k : Int) < c[i].b -> ∃ h : i + 1 + k < c.length, c[i + 1 + k].op = 51) /\ ∃ h : i + 1 + c[i].b.toNat < c.length, c[i + 1 + c[i].b.toNat].op ≠ 51
 cas : ∀ i (h : i < c.length), c[i].op = 51 -> ∃ j, ∃ hj : j < i, c[j].op = 50 /\ (i : Int) <= j + c[j].b /\ ∀ k (hk : k < c.length), j < k -> k <= i -> c[k].op = 51
 tgt : ∀ i (h : i < c.length), c[i].op = 16 \/ c[i].op = 17 \/ c[i].op = 45 -> 0 <= c[i].c /\ ∃ h : c[i].c.toNat < c.length, c[c[i].c.toNat].op ≠ 51
theorem g1p {p : Pg} (hv : a3g p = true) {f : FnD} (hf : f ∈ p.funcs) : CodeOk f.code := by
 have hp := vOk hv
 obtain ⟨h1, h2, h3, h4⟩ := hp.regs hf
 have hh := hp.head f hf
 have hR : a9j p f f.code 0 = true := by
  simp only [a3g, Bool.and_eq_true] at hv
  have := List.all_eq_true.1 hv.2.2.1 f hf
  simp only [fnR, Bool.and_eq_true] at this
  exact this.2
 have hne : 0 < f.code.length := by
  simp only [a9x, Bool.and_eq_true] at hh
  have := hh.1.1.2
  simp at this
  exact List.length_pos_iff.2 this
 have hla : ∀ i (h : i < f.code.length), i + 1 = f.code.length -> f.code[i].op = 30 \/ f.code[i].op = 16 := fun i h e => by
  simp only [a9x, Bool.and_eq_true, a9r, Bool.or_eq_true, decide_eq_true_eq] at hh
  have e1 : ((f.code.length : Int) - 1).toNat = i := by omega
  have := hh.2
  rw [b0s _ _ (by omega)] at this
  simp only [e1] at this
  exact this
 have L := d2q f.code 0 (by omega) (by omega) hR
 have S := e2w f.code 0
 generalize hE : eAtF f.code 0 = E at L S
 have hE0 : E 0 = 0 := by rw [<- hE]; cases f.code <;> rfl
 have hsel : ∀ i (h : i < f.code.length), f.code[i].op = 50 -> ∀ k : Nat, (k : Int) <= f.code[i].b -> ∃ h : i + 1 + k < f.code.length, E (i + 1 + k) = f.code[i].b - k := fun i h e k => by
  induction k with
  | zero =>
    intro _
    have h1 : i + 1 < f.code.length := by
     rcases Nat.lt_or_ge (i + 1) f.code.length with h1 | h1
     . exact h1
     . have := hla i h (by omega); omega
    refine ⟨h1, ?_⟩
    have := S i h
    rw [if_pos e] at this
    simpa using this
  | succ k ih =>
    intro hk
    obtain ⟨h1, h2⟩ := ih (by omega)
    have h5 := (L _ h1).2.1.1 (by omega)
    have h3 : i + 1 + k + 1 < f.code.length := by
     rcases Nat.lt_or_ge (i + 1 + k + 1) f.code.length with h3 | h3
     . exact h3
     . have := hla _ h1 (by omega); omega
    refine ⟨h3, ?_⟩
    have := S _ h1
    rw [if_neg (by omega), if_pos (by omega)] at this
    show E (i + 1 + k + 1) = _
    rw [this, h2]; omega
 have hb : ∀ i (h : i < f.code.length), f.code[i].op = 50 -> 0 <= f.code[i].b /\ f.code[i].b <= 8 := fun i h e => by
  have := (d8s (L i h).1).b
  rw [e] at this
  simpa [opR, rR] using this
 refine ⟨hne, h4, fun h => ?_, hla, fun i h n50 n51 => ?_, fun i h e => ⟨hb i h e, fun k hk => ?_, ?_⟩, fun i h e => ?_, fun i h e => ?_⟩
 . intro e
   have := (L 0 h).2.1.2 e
   omega
 . intro e
   have h1 := (L _ h).2.1.2 e
   have h2 := S i (by omega)
   have h3 := mt (L i (by omega)).2.1.1 n51
   rw [if_neg n50, if_neg h3] at h2
   omega
 . obtain ⟨h1, h2⟩ := hsel i h e k (by omega)
   exact ⟨h1, (L _ h1).2.1.1 (by omega)⟩
 . have := hb i h e
   obtain ⟨h1, h2⟩ := hsel i h e f.code[i].b.toNat (by omega)
   refine ⟨h1, fun e2 => ?_⟩
   have := (L _ h1).2.1.2 e2
   omega
 . induction i with
   | zero => have := (L 0 h).2.1.2 e; omega
   | succ i ih =>
     have h1 := (L _ h).2.1.2 e
     have h2 := S i (by omega)
     by_cases e5 : f.code[i].op = 50
     . rw [if_pos e5] at h2
       refine ⟨i, by omega, e5, by omega, fun k hk a b => ?_⟩
       have : k = i + 1 := by omega
       subst this; exact e
     . rw [if_neg e5] at h2
       have h3 : 0 < E i := by split at h2 <;> omega
       rw [if_pos h3] at h2
       obtain ⟨j, hj, g1, g2, g3⟩ := ih (by omega) ((L i (by omega)).2.1.1 h3)
       obtain ⟨g4, g5⟩ := hsel j (by omega) g1 (i - j - 1) (by omega)
       have g6 : j + 1 + (i - j - 1) = i := by omega
       rw [g6] at g5
       refine ⟨j, by omega, g1, by omega, fun k hk a b => ?_⟩
       by_cases ek : k = i + 1
       . subst ek; exact e
       . exact g3 k hk a (by omega)
 . have := (d8s (L i h).1).c
   have hr : (rR f.code[i].op).2.2 = 106 := by rcases e with e | e | e <;> rw [e] <;> rfl
   rw [hr] at this
   simp only [opR] at this
   simp at this
   have h1 : f.code[i].c.toNat < f.code.length := by omega
   rw [b0s _ _ h1] at this
   exact ⟨by omega, h1, by simpa using this.2⟩
def nx (c : List Ins) (i : Nat) : List Int := match c[i]? with
 | none => []
 | some n => if n.op = 30 \/ n.op = 51 then [] else if n.op = 16 then [n.c] else if n.op = 17 \/ n.op = 45 then a5p [(i : Int) + 1] n.c else if n.op = 50 then [(i : Int) + 1 + n.b] else [(i : Int) + 1]
theorem c8s {c : List Ins} {i : Nat} (h : i < c.length) : nx c i = if c[i].op = 30 \/ c[i].op = 51 then [] else if c[i].op = 16 then [c[i].c] else if c[i].op = 17 \/ c[i].op = 45 then a5p [(i : Int) + 1] c[i].c else if c[i].op = 50 then [(i : Int) + 1 + c[i].b] else [(i : Int) + 1] := by
 unfold nx
 rw [List.getElem?_eq_getElem h]
theorem c1s {a b v : Int} : v ∈ a5p [a] b ↔ v = a \/ v = b := by
 rw [b9u]; simp
theorem b1d {c : List Ins} (hc : CodeOk c) {i : Nat} {v : Int} (h : v ∈ nx c i) : 0 <= v /\ ∃ hv : v.toNat < c.length, c[v.toNat].op ≠ 51 := by
 unfold nx at h
 split at h
 . cases h
 rename_i n hn
 obtain ⟨hi, rfl⟩ := List.getElem?_eq_some_iff.1 hn
 have nxt : c[i].op ≠ 30 -> c[i].op ≠ 16 -> c[i].op ≠ 50 -> c[i].op ≠ 51 -> 0 <= (i : Int) + 1 /\ ∃ hv : ((i : Int) + 1).toNat < c.length, c[((i : Int) + 1).toNat].op ≠ 51 := fun n1 n2 n3 n4 => by
  have h1 : i + 1 < c.length := by
   rcases Nat.lt_or_ge (i + 1) c.length with h1 | h1
   . exact h1
   . have := hc.la i hi (by omega); omega
  refine ⟨by omega, by omega, ?_⟩
  have e : ((i : Int) + 1).toNat = i + 1 := by omega
  simp only [e]
  exact hc.fall i h1 n3 n4
 split at h
 . cases h
 split at h
 . rename_i e
   rw [List.mem_singleton] at h; subst h
   exact hc.tgt i hi (.inl e)
 split at h
 . rename_i e
   rcases c1s.1 h with h | h
   . subst h
     exact nxt (by omega) (by omega) (by omega) (by omega)
   . subst h
     exact hc.tgt i hi (by omega)
 split at h
 . rename_i e
   rw [List.mem_singleton] at h; subst h
   obtain ⟨h1, _, h2, h3⟩ := hc.sel i hi e
   have e2 : ((i : Int) + 1 + c[i].b).toNat = i + 1 + c[i].b.toNat := by omega
   refine ⟨by omega, by omega, ?_⟩
   simp only [e2]
   exact h3
 . rw [List.mem_singleton] at h; subst h
   exact nxt (by omega) (by omega) (by omega) (by omega)
inductive Rc (c : List Ins) : Nat -> Prop
 | zero : 0 < c.length -> Rc c 0
 | step {i : Nat} {v : Int} : Rc c i -> v ∈ nx c i -> Rc c v.toNat
theorem Rc.lt {c : List Ins} (hc : CodeOk c) {i : Nat} (h : Rc c i) : i < c.length := by
 cases h with
 | zero h => exact h
 | step _ h => exact (b1d hc h).2.1
theorem Rc.op {c : List Ins} (hc : CodeOk c) {i : Nat} (h : Rc c i) (hi : i < c.length) : c[i].op ≠ 51 := by
 cases h with
 | zero h => exact hc.h0 h
 | step _ h => exact (b1d hc h).2.2
def hd (c : List Ins) : Nat -> Nat
 | 0 => 0
 | i + 1 => if opAt c ((i + 1 : Nat) : Int) = 51 then hd c i else i + 1
theorem c3u (c : List Ins) : ∀ i, hd c i <= i
 | 0 => Nat.le_refl _
 | i + 1 => by
   unfold hd
   split
   . have := c3u c i; omega
   . exact Nat.le_refl _
theorem a8u {c : List Ins} {i : Nat} (h : i < c.length) (e : c[i].op ≠ 51) : hd c i = i := by
 cases i with
 | zero => rfl
 | succ i =>
   unfold hd
   rw [b0s _ _ (by omega), if_neg]
   simpa using e
theorem hd_s {c : List Ins} {i : Nat} (h : i + 1 < c.length) (e : c[i + 1].op = 51) : hd c (i + 1) = hd c i := by
 conv => lhs; unfold hd
 rw [b0s _ _ (by omega), if_pos]
 simpa using e
theorem d3p {c : List Ins} (hc : CodeOk c) : ∀ i (h : i < c.length) (h' : hd c i < c.length), c[hd c i].op ≠ 51
 | 0, h, _ => hc.h0 h
 | i + 1, h, h' => by
   by_cases e : c[i + 1].op = 51
   . have := d3p hc i (by omega) (by rw [<- hd_s h e]; exact h')
     simpa only [hd_s h e] using this
   . simpa only [a8u h e] using e
open Classical in
noncomputable def rcL (c : List Ins) : List Bool := (List.range c.length).map fun i => decide (Rc c i)
open Classical in
noncomputable def a8p (c : List Ins) : List Bool := (List.range c.length).map fun i => decide (Rc c (hd c i))
theorem b9o (c : List Ins) : (rcL c).length = c.length := by simp [rcL]
theorem b0r (c : List Ins) : (a8p c).length = c.length := by simp [a8p]
theorem e1n {c : List Ins} {i : Nat} (h : i < (rcL c).length) : (rcL c)[i] = true ↔ Rc c i := by simp [rcL]
theorem d1p {c : List Ins} {i : Nat} (h : i < (a8p c).length) : (a8p c)[i] = true ↔ Rc c (hd c i) := by simp [a8p]
theorem e6f {c : List Ins} (hc : CodeOk c) {o : Int} : isM (rcL c) o ↔ 0 <= o /\ Rc c o.toNat := by
 constructor
 . intro h
   have h1 := c1y h
   refine ⟨h.1, ?_⟩
   have h2 : o.toNat < (rcL c).length := by have := h.1; omega
   have e : ((o.toNat : Nat) : Int) = o := by have := h.1; omega
   rw [<- e, b8j h2] at h
   exact (e1n h2).1 h
 . rintro ⟨h0, h⟩
   have h2 : o.toNat < (rcL c).length := by rw [b9o]; exact h.lt hc
   have e : ((o.toNat : Nat) : Int) = o := by omega
   rw [<- e, b8j h2]
   exact (e1n h2).2 h
theorem f4h {c : List Ins} (hc : CodeOk c) {l : List Bool} (hl : l.length = c.length) (h0 : isM l 0) (hm : ∀ o, isM l o -> Rc c o.toNat) (hs : ∀ o, isM l o -> ∀ v ∈ nx c o.toNat, isM l v) : l = rcL c := by
 refine c7s (by rw [hl, b9o]) fun v => ?_
 rw [e6f hc]
 refine ⟨fun h => ⟨h.1, hm v h⟩, ?_⟩
 rintro ⟨h, hr⟩
 have key : ∀ i, Rc c i -> isM l (i : Int) := fun i hi => by
  induction hi with
  | zero => exact h0
  | @step i v _ hv ih =>
    have := hs _ ih v (by simpa using hv)
    have e : ((v.toNat : Nat) : Int) = v := by have := (b1d hc hv).1; omega
    rw [e]; exact this
 have := key _ hr
 have e : ((v.toNat : Nat) : Int) = v := by omega
 rwa [e] at this
def psh (s : List Bool × List Int) (v : Int) : List Bool × List Int := if s.1[v.toNat]? = some true then s else (mk1 s.1 v, s.2 ++ [v])
def pshs (l : List Bool) (st : List Int) (s : List Int) : List Bool × List Int := s.foldl psh (l, st)
theorem c5w (l : List Bool) (st : List Int) : pshs l st [] = (l, st) := rfl
theorem c1k (l : List Bool) (st s : List Int) (v : Int) : pshs l st (s ++ [v]) = psh (pshs l st s) v := by simp [pshs, List.foldl_append]
theorem d1y (l : List Bool) (st : List Int) {s : List Int} {k : Nat} (h : k < s.length) : pshs l st (s.take (k + 1)) = psh (pshs l st (s.take k)) s[k] := by
 rw [List.take_succ_eq_append_getElem h, c1k]
def wtV (s : List Bool × List Int) : Nat := 2 * s.1.count false + s.2.length
theorem e3b {l : List Bool} {v : Int} (h0 : 0 <= v) (h1 : v < (l.length : Int)) (h : ¬ l[v.toNat]? = some true) : (mk1 l v).count false + 1 = l.count false := by
 have h2 : v.toNat < l.length := by omega
 have h3 : l[v.toNat] = false := by
  rw [List.getElem?_eq_getElem h2] at h
  simpa using h
 have : ∀ (l : List Bool) (i : Nat) (hi : i < l.length), l[i] = false -> (l.set i true).count false + 1 = l.count false := by
  intro l
  induction l with
  | nil => intro i hi; cases hi
  | cons b r ih =>
    intro i hi e
    cases i with
    | zero =>
      simp only [List.getElem_cons_zero] at e
      subst e
      rw [List.set_cons_zero, List.count_cons, List.count_cons]
      simp
    | succ i =>
      rw [List.set_cons_succ, List.count_cons, List.count_cons]
      have := ih i (by simpa using hi) (by simpa using e)
      omega
 exact this l _ h2 h3
structure Ps (l : List Bool) (st s : List Int) (r : List Bool × List Int) : Prop where
 len : r.1.length = l.length
 mem : ∀ v, isM r.1 v ↔ isM l v \/ v ∈ s
 stk : ∀ v, v ∈ r.2 ↔ v ∈ st \/ (v ∈ s /\ ¬ isM l v)
 wt : wtV r <= wtV (l, st)
theorem f4o (l : List Bool) (st : List Int) : ∀ (s : List Int), (∀ o ∈ s, 0 <= o /\ o < (l.length : Int)) -> Ps l st s (pshs l st s) := by
 intro s
 induction hn : s.length generalizing s with
 | zero =>
   intro _
   have : s = [] := List.length_eq_zero_iff.1 hn
   subst this
   exact ⟨rfl, by simp [c5w], by simp [c5w], Nat.le_refl _⟩
 | succ n ih =>
   intro hs
   obtain ⟨t, v, rfl⟩ : ∃ t v, s = t ++ [v] := ⟨s.dropLast, s.getLast (by intro e; subst e; cases hn), (List.dropLast_concat_getLast _).symm⟩
   have hI := ih t (by simpa using hn) fun o ho => hs o (by simp [ho])
   have hv := hs v (by simp)
   rw [c1k]
   unfold psh
   split
   . rename_i hm
     have hm2 : isM (pshs l st t).1 v := ⟨hv.1, hm⟩
     have h3 := (hI.mem v).1 hm2
     refine ⟨hI.len, fun w => ?_, fun w => ?_, hI.wt⟩
     . rw [hI.mem w, List.mem_append, List.mem_singleton]
       constructor
       . rintro (h | h)
         . exact .inl h
         . exact .inr (.inl h)
       . rintro (h | h | h)
         . exact .inl h
         . exact .inr h
         . subst h; exact h3
     . rw [hI.stk w, List.mem_append, List.mem_singleton]
       constructor
       . rintro (h | ⟨h, h'⟩)
         . exact .inl h
         . exact .inr ⟨.inl h, h'⟩
       . rintro (h | ⟨h | h, h'⟩)
         . exact .inl h
         . exact .inr ⟨h, h'⟩
         . subst h
           exact .inr ⟨h3.resolve_left h', h'⟩
   . rename_i hm
     have hb : v < ((pshs l st t).1.length : Int) := by rw [hI.len]; exact hv.2
     have hnm : ¬ isM (pshs l st t).1 v := fun h => hm h.2
     have hnl : ¬ isM l v := fun h => hnm ((hI.mem v).2 (.inl h))
     refine ⟨by rw [b3j, hI.len], fun w => ?_, fun w => ?_, ?_⟩
     . rw [c0b hv.1 hb, hI.mem w, List.mem_append, List.mem_singleton, or_assoc]
     . rw [List.mem_append, List.mem_singleton, hI.stk w, List.mem_append, List.mem_singleton]
       constructor
       . rintro ((h | ⟨h, h'⟩) | h)
         . exact .inl h
         . exact .inr ⟨.inl h, h'⟩
         . subst h; exact .inr ⟨.inr rfl, hnl⟩
       . rintro (h | ⟨h | h, h'⟩)
         . exact .inl (.inl h)
         . exact .inl (.inr ⟨h, h'⟩)
         . exact .inr h
     . have h1 := hI.wt
       have h2 := e3b hv.1 hb hm
       unfold wtV at h1 ⊢
       rw [List.length_append, List.length_singleton]
       simp only at h1 ⊢
       omega
structure Vst (c : List Ins) (l : List Bool) (st : List Int) : Prop where
 len : l.length = c.length
 stk : ∀ o ∈ st, isM l o
 mkd : ∀ o, isM l o -> Rc c o.toNat
 h0 : isM l 0
 cs : ∀ o, isM l o -> o ∈ st \/ ∀ v ∈ nx c o.toNat, isM l v
theorem Vst.init {c : List Ins} (hc : CodeOk c) : Vst c (mk1 (List.replicate c.length false) 0) [0] := by
 have hi : ∀ v, isM (mk1 (List.replicate c.length false) 0) v ↔ v = 0 := fun v => by
  rw [c0b (by omega) (by have := hc.ne; simp; omega)]
  exact ⟨fun h => h.resolve_left (b1r _ v), .inr⟩
 refine ⟨by rw [b3j, List.length_replicate], fun o ho => (hi o).2 (by simpa using ho), fun o ho => ?_, (hi 0).2 rfl, fun o ho => .inl ?_⟩
 . rw [(hi o).1 ho]; exact .zero hc.ne
 . rw [(hi o).1 ho]; simp
theorem Vst.pop {c : List Ins} (hc : CodeOk c) {l : List Bool} {st : List Int} {o : Int} (h : Vst c l (st ++ [o])) : Vst c (pshs l st (nx c o.toNat)).1 (pshs l st (nx c o.toNat)).2 /\ wtV (pshs l st (nx c o.toNat)) < wtV (l, st ++ [o]) := by
 have ho := h.stk o (by simp)
 have hb : ∀ v ∈ nx c o.toNat, 0 <= v /\ v < (l.length : Int) := fun v hv => by
  obtain ⟨h1, h2, _⟩ := b1d hc hv
  rw [h.len]; omega
 have P := f4o l st (nx c o.toNat) hb
 generalize pshs l st (nx c o.toNat) = r at P
 refine ⟨⟨by rw [P.len, h.len], fun v hv => ?_, fun v hv => ?_, (P.mem 0).2 (.inl h.h0), fun v hv => ?_⟩, ?_⟩
 . rcases (P.stk v).1 hv with hv | hv
   . exact (P.mem v).2 (.inl (h.stk v (by simp [hv])))
   . exact (P.mem v).2 (.inr hv.1)
 . rcases (P.mem v).1 hv with hv | hv
   . exact h.mkd v hv
   . exact .step (h.mkd o ho) hv
 . by_cases hl : isM l v
   . rcases h.cs v hl with h1 | h1
     . rw [List.mem_append, List.mem_singleton] at h1
       rcases h1 with h1 | h1
       . exact .inl ((P.stk v).2 (.inl h1))
       . subst h1
         exact .inr fun w hw => (P.mem w).2 (.inr hw)
     . exact .inr fun w hw => (P.mem w).2 (.inl (h1 w hw))
   . have := ((P.mem v).1 hv).resolve_left hl
     exact .inl ((P.stk v).2 (.inr ⟨this, hl⟩))
 . have := P.wt
   unfold wtV at this ⊢
   simp only [List.length_append, List.length_singleton] at this ⊢
   omega
theorem Vst.fin {c : List Ins} (hc : CodeOk c) {l : List Bool} (h : Vst c l []) : l = rcL c :=
 f4h hc h.len h.h0 h.mkd fun o ho => (h.cs o ho).resolve_left (by simp)
theorem c5x (c : List Ins) (i : Nat) : (nx c i).length <= 1000 := by
 unfold nx
 split
 . simp
 split
 . simp
 split
 . simp
 split
 . have := b8w [(i : Int) + 1] (by assumption : Ins).c; simp at this ⊢; omega
 split <;> simp
def rdN (c : List Ins) (l : List Bool) (k : Nat) : List Bool := (List.range k).foldl (fun l (o : Nat) => if l[o]? = some true then mkL l (nx c o) else l) l
theorem d7q (c : List Ins) (l : List Bool) (k : Nat) : rdN c l (k + 1) = if (rdN c l k)[k]? = some true then mkL (rdN c l k) (nx c k) else rdN c l k := by
 unfold rdN
 rw [List.range_succ, List.foldl_append]
 rfl
theorem b3g (c : List Ins) (l : List Bool) : ∀ k, (rdN c l k).length = l.length
 | 0 => rfl
 | k + 1 => by
   rw [d7q]
   split
   . rw [b1w]; exact b3g c l k
   . exact b3g c l k
def chg (l r : List Bool) (m : Bool) : Prop := (m = false -> r = l) /\ (m = true -> r.count false < l.count false) /\ r.count false <= l.count false
structure Swp (c : List Ins) (l : List Bool) (more : Bool) : Prop where
 len : l.length = c.length
 mkd : ∀ o, isM l o -> Rc c o.toNat
 h0 : isM l 0
 cs : more = false -> ∀ o, isM l o -> ∀ v ∈ nx c o.toNat, isM l v
def muS (l : List Bool) (more : Bool) : Nat := if more then l.count false + 1 else 0
theorem Swp.init {c : List Ins} (hc : CodeOk c) : Swp c (mk1 (List.replicate c.length false) 0) true :=
 ⟨(Vst.init hc).len, (Vst.init hc).mkd, (Vst.init hc).h0, fun h => (by cases h)⟩
theorem f4f {c : List Ins} (hc : CodeOk c) {l : List Bool} (hl : l.length = c.length) {v : Int} (k : Nat) (h : isM (rdN c l k) v) : isM (rdN c l (k + 1)) v := by
 rw [d7q]
 split
 . exact (isM_mkL _ _ fun o ho => by obtain ⟨h1, h2, _⟩ := b1d hc ho; rw [b3g, hl]; omega).2 (.inl h)
 . exact h
theorem b4s {c : List Ins} (hc : CodeOk c) {l : List Bool} (hl : l.length = c.length) {v : Int} (j : Nat) : ∀ k, j <= k -> isM (rdN c l j) v -> isM (rdN c l k) v
 | 0, hk, h => by rw [Nat.le_zero.1 hk] at h; exact h
 | k + 1, hk, h => by
   by_cases e : j = k + 1
   . rw [<- e]; exact h
   . exact f4f hc hl k (b4s hc hl j k (by omega) h)
theorem f4g {c : List Ins} (hc : CodeOk c) {l : List Bool} (hl : l.length = c.length) (hm : ∀ o, isM l o -> Rc c o.toNat) : ∀ k v, isM (rdN c l k) v -> Rc c v.toNat
 | 0, v, h => hm v h
 | k + 1, v, h => by
   have ih := f4g hc hl hm k
   rw [d7q] at h
   split at h
   . rename_i hk
     rcases (isM_mkL _ _ fun o ho => by obtain ⟨h1, h2, _⟩ := b1d hc ho; rw [b3g, hl]; omega).1 h with h | h
     . exact ih v h
     . have := ih (k : Int) ⟨by omega, by simpa using hk⟩
       rw [Int.toNat_natCast] at this
       exact .step this h
   . exact ih v h
theorem Swp.next {c : List Ins} (hc : CodeOk c) {l : List Bool} {m0 m : Bool} (h : Swp c l m0) (hg : chg l (rdN c l c.length) m) : Swp c (rdN c l c.length) m /\ muS (rdN c l c.length) m < muS l true := by
 refine ⟨⟨by rw [b3g]; exact h.len, f4g hc h.len h.mkd _, b4s hc h.len 0 _ (by omega) h.h0, fun e o ho v hv => ?_⟩, ?_⟩
 . have e1 := hg.1 e
   rw [e1] at ho ⊢
   have h1 := c1y ho
   have e : ((o.toNat : Nat) : Int) = o := by have := ho.1; omega
   have h2 : isM (rdN c l o.toNat) o := b4s hc h.len 0 o.toNat (by omega) ho
   have h3 : isM (rdN c l (o.toNat + 1)) v := by
    rw [d7q, if_pos h2.2]
    exact (isM_mkL _ _ fun a ha => by obtain ⟨h1, h2, _⟩ := b1d hc ha; rw [b3g, h.len]; omega).2 (.inr hv)
   have h4 := b4s hc h.len (o.toNat + 1) c.length (by rw [h.len] at h1; omega) h3
   rw [e1] at h4
   exact h4
 . unfold muS
   cases m
   . simp
   . have := hg.2.1 rfl
     simp; omega
theorem Swp.fin {c : List Ins} (hc : CodeOk c) {l : List Bool} (h : Swp c l false) : l = rcL c := f4h hc h.len h.h0 h.mkd (h.cs rfl)
end Go.Gv
namespace Go.Je
open Go Go.RowKit Go.Proofs Go.Shelf Go.Sort Go.FM
set_option maxHeartbeats 40000000
set_option maxRecDepth 100000
theorem d0r (l : List ByteArray) : (strs l).flatten = l.map FV.str := by
 induction l with
 | nil => rfl
 | cons x l ih => simp only [strs, List.map_cons, List.flatten_cons, b7x] at ih ⊢; rw [ih]; rfl
theorem c5r {w : World} {F : Nat -> Prop} {U : FM.Loc -> Prop} {m : FM.Loc -> Nat × Nat} : ∀ (l : List ByteArray) (vs : List Value), RFs w F U m (l.map FV.str) vs -> vs = l.map Value.string
 | [], _, h => by cases h; rfl
 | x :: l, _, h => by
   cases h with
   | cons _ v _ vs h1 h2 =>
   cases h1
   rw [c5r l vs h2]; rfl
theorem c36 (l : List ByteArray) (hl : l.length <= 2000000) : PC Tryz.prog Gl 77 [.list 1 (strs l)] (.bool (Gv.uniq (l.map (·.data.toList)))) := by
 refine b5i fun w F m vs hF hG hv hH => ?_
 cases hv with
 | cons _ v _ vs h1 h2 =>
 cases h2
 cases h1 with
 | list sz xs A cap vs hl' hc hm h =>
 rw [d0r] at h
 have hvs := c5r l vs h
 subst hvs
 rw [a2s]
 have fin : ∀ (e : Ending) (w' : World), (e = .returned (.bool (Gv.uniq (l.map (·.data.toList)))) /\ RowKit.Below w.heap.size w w') -> ∃ v, e = .returned v /\ RowKit.Below w.heap.size w w' /\ RF w' F (fun l => noH l ≠ none) m (.bool (Gv.uniq (l.map (·.data.toList)))) v := by
  rintro e w' ⟨rfl, hb⟩
  exact ⟨_, rfl, hb, .bool _⟩
 cases hA : A with
 | none =>
   cases l with
   | cons x l => obtain ⟨a, ha, _⟩ := hm (by simp [strs]); rw [hA] at ha; cases ha
   | nil =>
     refine (c8i cap w).mono ?_
     rintro e w' ⟨rfl, rfl⟩
     exact fin _ _ ⟨rfl, Below.refl _ _⟩
 | some a =>
   by_cases hn : l = []
   . subst hn
     refine (b5k (some a) 0 cap [] w (by omega) ((Any.slices_Clone_string_zero uL1 a cap w).mono ?_)).mono ?_
     . rintro e w' ⟨v', rfl, h1, h2, h3⟩; exact ⟨v', rfl, h1, h2, h3⟩
     . exact fin
   . obtain ⟨a', ha, hF', hcell⟩ := hm (by cases l with | nil => exact absurd rfl hn | cons x l => simp [strs])
     rw [hA] at ha
     cases ha
     have hs : a.spot = none := by
      obtain ⟨v, hv⟩ : ∃ v, (l.map Value.string)[0]? = some v := ⟨_, List.getElem?_eq_getElem (by cases l with | nil => exact absurd rfl hn | cons x l => simp)⟩
      have := hcell 0 v hv
      simp only [Addr.add, if_true] at this
      unfold World.cell? at this
      split at this
      . split at this
        . cases this
        . rename_i h; simpa using h
      . cases this
     obtain ⟨b, off, sp⟩ := a
     simp only at hs
     subst hs
     have hcl := Any.slices_Clone_string uL1 b off l.length cap l w (Nat.le_refl _) (by omega) (fun j hj => by
      have := hcell j (.string l[j]) (by rw [List.getElem?_map, List.getElem?_eq_getElem hj]; rfl)
      rw [add0] at this
      rw [this, List.getD_eq_getElem?_getD, List.getElem?_eq_getElem hj]; rfl)
     refine (b5k (some ⟨b, off, none⟩) l.length cap (l.map (·.data.toList)) w (by omega) (hcl.mono ?_)).mono fin
     rintro e w' ⟨v', rfl, h1, h2, h3⟩
     exact ⟨v', rfl, by rw [Lib.map_encStr]; rw [List.take_length] at h1; exact h1, h2, h3⟩
end Go.Je
