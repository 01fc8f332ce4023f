/- Parts of the proof. -/
import Derived.Test.YtfhhgjbcenhdeaaGreatDoorF9
set_option linter.unusedSimpArgs false
set_option linter.unusedVariables false
namespace Go.Je
open Go Go.FM Go.Gv Go.Proofs
set_option maxRecDepth 100000
set_option maxHeartbeats 40000000
theorem c114 (p : Pg) (f : FnD) (x : Ins) (role v : Int) (hc : f.code.length <= 2000000) (hf : p.funcs.length <= 2000000) (hg : p.globals.length <= 2000000) (hl : p.layouts.length <= 2000000) : PC Tryz.prog Gl 139 [.agg [.list 4 (fns p.funcs), .list 2 (gbs p.globals), .list 1 (lays p.layouts), .int .i64 p.main], .agg [.str f.name, .int .i64 f.params, .int .i64 f.regs, .list 5 (inss f.code)], .agg [.int .i64 x.op, .int .i64 x.a, .int .i64 x.b, .int .i64 x.c, .int .i64 x.d], .int .u8 role, .int .i64 v] (.bool (opR p f x role v)) := by
 refine a8v (res := [.tmp 10]) 11 177 [11] (fun d ix => d :: ix) (fn := Tryz.f139) (by kernel_rfl) (by rfl) (by rfl) (by rfl) (by simp) (by decide) ?_
 repeat' first
  | with_reducible first | refine stp ?_ | refine stpK ?_; intro K hK | refine stpC ?_; intro T E hT hE | refine stp2 ?_ ?_ <;> intro h | refine a2j (id := 17) 28 a0y (by kernel_rfl) fun K hK => ?_ | refine a0g rfl ?_ | refine a0j rfl (by decide) a0i ?_ | refine a0j rfl (by decide) (a0h (by simp [upd, noH, ext, a4w, a3l, *])) ?_ | refine a1g (by decide) (by kernel_rfl) ?_ | refine a0o (by decide) ?_ | refine Kont.go hK ?_; clear hK K | refine KT.go hT ?_; clear hT hE T E | refine KT.go hE ?_; clear hT hE T E
  | simp [*, -List.all_flatten, -List.all_eq_true, DEFO, -Bool.decide_and, a0n, a0x, a1c, a3c, a1n, a0a, a0b, a0e, a0m, a0c, a4z, a2b, a2o, a9b, a6k, a2f, Ins.row, FnD.row, Gb.row, a3w, Int.le_sub_one_iff]
 all_goals first
  | (simp_all [opR, opAt, a5v]; done)
  | (rw [<- Bool.not_eq_true]; intro hh; simp [opR, *] at hh <;> omega)
  | trace_state
theorem c5t {n : Int} (h : 1 <= n /\ n <= 52) : (fIdx Tryz.prog 9 (.str (rlI n)) (.int .i64 0) = some (.int .u8 (rI n).1) /\ fIdx Tryz.prog 9 (.str (rlI n)) (.int .i64 1) = some (.int .u8 (rI n).2.1) /\ fIdx Tryz.prog 9 (.str (rlI n)) (.int .i64 2) = some (.int .u8 (rI n).2.2)) /\
 (fIdx Tryz.prog 9 (.str (rlR n)) (.int .i64 0) = some (.int .u8 (rR n).1) /\ fIdx Tryz.prog 9 (.str (rlR n)) (.int .i64 1) = some (.int .u8 (rR n).2.1) /\ fIdx Tryz.prog 9 (.str (rlR n)) (.int .i64 2) = some (.int .u8 (rR n).2.2)) /\ ((rlR n).data.toList == []) = false := by
 rcases Gv.b4r h with rfl | rfl | rfl | rfl | rfl | rfl | rfl | rfl | rfl | rfl | rfl | rfl | rfl | rfl | rfl | rfl | rfl | rfl | rfl | rfl | rfl | rfl | rfl | rfl | rfl | rfl | rfl | rfl | rfl | rfl | rfl | rfl | rfl | rfl | rfl | rfl | rfl | rfl | rfl | rfl | rfl | rfl | rfl | rfl | rfl | rfl | rfl | rfl | rfl | rfl | rfl | rfl
 all_goals (simp only [fIdx, e1l, rlI, rlR, rI, rR]; refine ⟨⟨by rfl, by rfl, by rfl⟩, ⟨by rfl, by rfl, by rfl⟩, by rfl⟩)
theorem f5c (a b c : Int) : fIdx Tryz.prog 130 (.agg [.int .i64 a, .int .i64 b, .int .i64 c]) (.int .i64 0) = some (.int .i64 a) := by simp [fIdx, c4n, b6r, c4k, c4l]
theorem f5b (a b c : Int) : fIdx Tryz.prog 130 (.agg [.int .i64 a, .int .i64 b, .int .i64 c]) (.int .i64 1) = some (.int .i64 b) := by simp [fIdx, c4n, b6r, c4k, c4l]
theorem f5a (a b c : Int) : fIdx Tryz.prog 130 (.agg [.int .i64 a, .int .i64 b, .int .i64 c]) (.int .i64 2) = some (.int .i64 c) := by simp [fIdx, c4n, b6r, c4k, c4l]
theorem f5y {i : Nat} (h : i <= 3) : i = 0 \/ i = 1 \/ i = 2 \/ i = 3 := by omega
theorem c34 (k : Int) : PC Tryz.prog Gl 75 [.int .i64 k] (.bool (a4d k)) := by
 refine a8v (res := [.tmp 2]) 3 9 [] (fun d ix => d :: ix) (fn := Tryz.f75) (by kernel_rfl) (by rfl) (by rfl) (by rfl) (by simp) (by decide) ?_
 repeat' first
  | with_reducible first | refine stp ?_ | refine stpK ?_; intro K hK | refine stpC ?_; intro T E hT hE | refine stp2 ?_ ?_ <;> intro h | refine a0g rfl ?_ | refine a0j rfl (by decide) a0i ?_ | refine a0j rfl (by decide) (a0h (by simp [upd, noH, ext, a4w, a3l, *])) ?_ | refine a1g (by decide) (by kernel_rfl) ?_ | refine a0o (by decide) ?_ | refine Kont.go hK ?_; clear hK K | refine KT.go hT ?_; clear hT hE T E | refine KT.go hE ?_; clear hT hE T E
  | simp [*, -List.all_flatten, -List.all_eq_true, DEFO]
 all_goals (simp_all [a4d])
theorem c109 (p : Pg) (f : FnD) (x : Ins) (role v : Int) (hc : f.code.length <= 2000000) (hf : p.funcs.length <= 2000000) (hg : p.globals.length <= 2000000) (hl : p.layouts.length <= 2000000) : PC Tryz.prog Gl 166 [.agg [.list 4 (fns p.funcs), .list 2 (gbs p.globals), .list 1 (lays p.layouts), .int .i64 p.main, .str f.name, .int .i64 f.params, .int .i64 f.regs, .list 5 (inss f.code)], .agg [.int .i64 x.op, .int .i64 x.a, .int .i64 x.b, .int .i64 x.c, .int .i64 x.d], .int .u8 role, .int .i64 v] (.bool (opI p f x role v)) := by
 have w1 := wl f.code.length (by omega); have w2 := wl p.funcs.length (by omega); have w3 := wl p.globals.length (by omega); have w4 := wl p.layouts.length (by omega)
 refine a8v (res := [.tmp 8]) 9 181 [9] (fun d ix => d :: ix) (fn := Tryz.f166) (by kernel_rfl) (by rfl) (by rfl) (by rfl) (by simp) (by decide) ?_
 repeat' first
  | with_reducible first | refine stp ?_ | refine stpK ?_; intro K hK | refine stpC ?_; intro T E hT hE | refine stp2 ?_ ?_ <;> intro h | refine a2j (id := 15) 31 a0y (by kernel_rfl) fun K hK => ?_ | refine a0g rfl ?_ | refine a1e (c31 _ _ _) (by simp [nls, nl, *, a0b, a0e, a0m, a0c, a0a]) ?_ | refine hpc (c31 _ _ _) (by simp [nls, nl, *, a0b, a0e, a0m, a0c, a0a]) ?_ | refine a0j rfl (by decide) a0i ?_ | refine a0j rfl (by decide) (a0h (by simp [upd, noH, ext, a4w, a3l, *])) ?_ | refine a1g (by decide) (by kernel_rfl) ?_ | refine a0o (by decide) ?_ | refine Kont.go hK ?_; clear hK K | refine KT.go hT ?_; clear hT hE T E | refine KT.go hE ?_; clear hT hE T E
  | simp [*, -List.all_flatten, -List.all_eq_true, DEFO, -Bool.decide_and, a0n, a0x, a1c, a3c, a1n, a0a, a0b, a0e, a0m, a0c, a4z, a2b, a2o, a9b, a6k, a2f, Ins.row, FnD.row, Gb.row, a3w, Int.le_sub_one_iff]
 all_goals first
  | (simp_all [opI, btw, opAt, a5v, Int.le_sub_one_iff]; done)
  | (subst_vars; rw [<- Bool.not_eq_true]; intro hh; simp [opI, btw, W, *] at hh <;> omega)
  | (rw [<- Bool.not_eq_true]; intro hh; simp [opI, btw, W, *] at hh <;> omega)
  | trace_state
theorem c8m (l : List Ins) : l.length = 0 \/ (¬ l.length = 0 /\ (1 : Int) <= (l.length : Int) /\ ∃ z : Ins, l[l.length - 1]? = some z /\ (inss l)[l.length - 1]? = some [.int .i64 z.op, .int .i64 z.a, .int .i64 z.b, .int .i64 z.c, .int .i64 z.d] /\ opAt l ((l.length : Int) - 1) = z.op) := by
 by_cases h : l.length = 0
 . exact .inl h
 . refine .inr ⟨h, by omega, l[l.length - 1]'(by omega), gE_ _, ?_, ?_⟩
   . rw [gE_ (by rw [a0x]; omega), a2b]; rfl
   . rw [b0j _ _ (by omega)]
     congr 2
     omega
theorem d6z (s : ByteArray) : ((s.data.toList == []) = true /\ s.data.toList = []) \/ ((s.data.toList == []) = false /\ ¬ s.data.toList = []) := by
 cases h : s.data.toList with
 | nil => left; simp
 | cons a b => right; simp
theorem a0z {i n : Nat} (h : i <= n) : i < n \/ (¬ i < n /\ i = n) := by omega
theorem e0d {p : Pg} {f : FnD} {i : Nat} {e : Int} (h : i < f.code.length) : b2j p f (f.code.drop i) e = (a9a p f f.code[i] && (if f.code[i].op = 51 then !decide (W (e - 1) < 0) && b2j p f (f.code.drop (i + 1)) (W (e - 1)) else if 0 < e then false else if f.code[i].op = 50 then !decide (f.code[i].b < 0) && b2j p f (f.code.drop (i + 1)) f.code[i].b else !decide (e < 0) && b2j p f (f.code.drop (i + 1)) e)) := by
 rw [List.drop_eq_getElem_cons h, b2j]
theorem e0c {p : Pg} {f : FnD} {i : Nat} {e : Int} (h : i < f.code.length) : b1o p f (f.code.drop i) e = (if decide (0 < e) = decide (f.code[i].op = 51) then a8h p f f.code[i] && b1o p f (f.code.drop (i + 1)) (if f.code[i].op = 50 then f.code[i].b else if 0 < e then W (e - 1) else e) else false) := by
 rw [List.drop_eq_getElem_cons h, b1o]
theorem c8i {α : Type} (l : List α) : l.drop l.length = [] := by simp
theorem e4h {α : Type} (l : List α) (q : α -> Bool) {i : Nat} (h : i < l.length) : (l.drop i).all q = (q l[i] && (l.drop (i + 1)).all q) := by
 rw [List.drop_eq_getElem_cons h, List.all_cons]
theorem d7o {α : Type} (l : List α) (q : α -> Bool) : (l.drop l.length).all q = true := by simp
theorem c37 (l : List (List Int)) (hl : l.length <= 2000000) (hb : ∀ x ∈ l, x.length <= 2000000) : PC Tryz.prog Gl 45 [.list 1 (lays l)] (.bool (layR l)) := by
 refine a8v (res := [.tmp 2]) 5 47 [] (fun d ix => d :: ix) (fn := Tryz.f45) (by kernel_rfl) (by rfl) (by rfl) (by rfl) (by simp) (by decide) ?_
 repeat' first
  | ((with_reducible refine a1a ?_); refine a7t (fun y : {i : Nat // i <= l.length /\ l.all layB = (l.drop i).all layB} => (⟨[.list 1 (lays l), .undef, .bool false, .int .i64 (y.1 : Int), .undef], [], hpL [], []⟩ : Fs)) (fun y => l.length - y.1) ⟨0, by simp⟩ (a3m [] (fun _ h => h) (by rfl) ?_ ?_ ?_) ?_; (focus (simp [*, SIMF, NLQ, tL_, fA_, *]; done)); (focus (simp [*, SIMF, NLQ, tL_, fA_]; done)); (focus (simp [*, SIMF, NLQ, tL_, fA_, *]; done)); rintro ⟨i, hi, hk⟩; (try dsimp only at hi hk); have hk2 := hk; rcases a0z hi with hlt | ⟨hlt, rfl⟩; rotate_left; rw [d7o] at hk2; rotate_left; rw [e4h _ _ hlt] at hk2; have wi := wli hlt (by omega); have hle := hb _ (gm_ hlt))
  | ((with_reducible refine a1a ?_); refine a7t (fun y : {k : Nat // k <= (l[i]'hlt).length /\ (l[i]'hlt).all a4d = ((l[i]'hlt).drop k).all a4d} => (⟨[.list 1 (lays l), .undef, .bool false, .int .i64 (i : Int), .int .i64 (y.1 : Int)], [], hpL [], []⟩ : Fs)) (fun y => (l[i]'hlt).length - y.1) ⟨0, by simp⟩ (a3m [] (fun _ h => h) (by rfl) ?_ ?_ ?_) ?_; (focus (simp [*, SIMF, NLQ, tL_, fA_, *]; done)); (focus (simp [*, SIMF, NLQ, tL_, fA_]; done)); (focus (simp [*, SIMF, NLQ, tL_, fA_, *]; done)); rintro ⟨k, hj, hm⟩; (try dsimp only at hj hm); have hm2 := hm; rcases a0z hj with hlk | ⟨hlk, rfl⟩; rotate_left; rw [d7o] at hm2; rotate_left; rw [e4h _ _ hlk] at hm2; have wk := wli hlk (by omega))
  | ((with_reducible refine a0q ?_); refine a1b (⟨i + 1, by omega, by rw [hk2, show layB l[i] = true from by rw [layB, hm2]; simp; omega, Bool.true_and]⟩) (a3m [] (fun _ h => h) (by rfl) ?_ ?_ ?_) (by dsimp only; omega); (iterate 3 (focus (simp [*, SIMF, NLQ, tL_, fA_, *]; done))))
  | ((with_reducible refine a0q ?_); refine a1b (⟨k + 1, by omega, by rw [hm2]; simp [a4d, *]⟩) (a3m [] (fun _ h => h) (by rfl) ?_ ?_ ?_) (by dsimp only; omega); (iterate 3 (focus (simp [*, SIMF, NLQ, tL_, fA_, *]; done))))
  | with_reducible first | refine stp ?_ | refine stpK ?_; intro K hK | refine stpC ?_; intro T E hT hE | refine stp2 ?_ ?_ <;> intro h | refine a0g rfl ?_ | refine a0j rfl (by decide) a0i ?_ | refine a0j rfl (by decide) (a0h (by simp [upd, noH, ext, a4w, a3l, *])) ?_ | refine a1g (by decide) (by kernel_rfl) ?_ | refine a0o (by decide) ?_ | refine Kont.go hK ?_; clear hK K | refine KT.go hT ?_; clear hT hE T E | refine KT.go hE ?_; clear hT hE T E
  | simp [*, -List.all_flatten, -List.all_eq_true, DEFO, a0n, a0x, a1c, a3c, a1n, a0a, a0b, a0e, a0m, a0c, a4z, a2b, a2o, a9b, a6k, a2f, Ins.row, FnD.row, Gb.row, a3w, Int.le_sub_one_iff]
 all_goals first
  | (simp_all [layR, layB, a4d]; done)
  | (clear hk; simp_all [layR, layB, a4d]; done)
  | (clear hk; simp_all [layR, layB, a4d]; omega)
  | (rw [layR, hk2]; simp [layR, layB, a4d, *]; done)
  | (rw [layR, hk2]; simp [layR, layB, a4d, *] <;> omega)
  | (rw [layR, hk2, layB, hm2]; simp [a4d, *]; done)
  | (rw [layR, hk2, layB, show decide (l[i].length <= 64) = false from by simp; omega]; simp; done)
  | trace_state
def b8a (s : ByteArray) : List FV := [.str s]
def strs (L : List (ByteArray)) : List (List FV) := L.map b8a
theorem a2e (L : List (ByteArray)) : (strs L).length = L.length := by simp [strs]
theorem a2k (a b : List (ByteArray)) : strs (a ++ b) = strs a ++ strs b := by simp [strs]
theorem a5c (a : ByteArray) : strs [a] = [b8a a] := rfl
theorem a4v : strs [] = [] := rfl
theorem a4f (n : Nat) (l : List (ByteArray)) : (strs l).take n = strs (l.take n) := by simp [strs, List.map_take]
theorem a2w (L : List (ByteArray)) : nlss (strs L) = true := by
 induction L with
 | nil => rfl
 | cons r rs ih => simpa [strs, nlss, nls, nl, b8a] using ih
def fidx (l : List Int) : Int := if l.all a4d then -1 else (l.findIdx (fun k => !a4d k) : Int)
theorem e1i {l : List Int} (h : ∀ j (hj : j < l.length), a4d l[j] = true) : fidx l = -1 := by
 rw [fidx, if_pos]
 rw [List.all_eq_true]
 intro x hx
 obtain ⟨j, hj, rfl⟩ := List.getElem_of_mem hx
 exact h j hj
theorem d5y {l : List Int} {i : Nat} (hi : i < l.length) (h : a4d l[i] = false) (hb : ∀ j (hj : j < l.length), j < i -> a4d l[j] = true) : fidx l = (i : Int) := by
 rw [fidx, if_neg]
 . congr 1
   rw [List.findIdx_eq hi]
   refine ⟨by simp [h], fun j hj => ?_⟩
   have := hb j (by omega) hj
   simp [this]
 . intro ha
   have := List.all_eq_true.mp ha _ (gm_ hi)
   rw [h] at this; cases this
theorem d5x (l : List Int) : decide (0 <= fidx l) = !(l.all a4d) := by
 unfold fidx
 cases h : l.all a4d <;> simp
def kOk (l : List Int) (i : Nat) : Prop := ∀ j (hj : j < l.length), j < i -> a4d l[j] = true
theorem f7t (l : List Int) : kOk l 0 := fun _ _ h => absurd h (by omega)
theorem f7s {l : List Int} {i : Nat} (h : kOk l i) (hi : i < l.length) (e : a4d l[i] = true) : kOk l (i + 1) := by
 intro j hj hji
 by_cases e' : j = i
 . subst e'; exact e
 . exact h j hj (by omega)
theorem c33 (k : Int) : PC Tryz.prog Gl 74 [.int .i64 k] (.bool (!a4d k)) := by
 refine a8v (res := [.tmp 2]) 3 6 [] (fun d ix => d :: ix) (fn := Tryz.f74) (by kernel_rfl) (by rfl) (by rfl) (by rfl) (by simp) (by decide) ?_
 repeat' first
  | with_reducible first | refine stp ?_ | refine stpK ?_; intro K hK | refine stpC ?_; intro T E hT hE | refine stp2 ?_ ?_ <;> intro h | refine a0g rfl ?_ | refine a1e (c34 _) (by simp [nls, nl, *, a0b, a0e, a0m, a0c, a0a]) ?_ | refine hpc (c34 _) (by simp [nls, nl, *, a0b, a0e, a0m, a0c, a0a]) ?_ | refine a0j rfl (by decide) a0i ?_ | refine a0j rfl (by decide) (a0h (by simp [upd, noH, ext, a4w, a3l, *])) ?_ | refine a1g (by decide) (by kernel_rfl) ?_ | refine a0o (by decide) ?_ | refine Kont.go hK ?_; clear hK K | refine KT.go hT ?_; clear hT hE T E | refine KT.go hE ?_; clear hT hE T E
  | simp [*, -List.all_flatten, -List.all_eq_true, DEFO]
theorem c60 (l : List Int) (hl : l.length <= 2000000) : PC Tryz.prog Gl 123 [.list 1 (ints l), .clo 74 [] []] (.int .i64 (fidx l)) := by
 refine a8v (res := [.tmp 4]) 6 19 [8, 7] (fun d ix => d :: ix) (fn := Tryz.f123) (by kernel_rfl) (by rfl) (by rfl) (by rfl) (by simp) (by decide) ?_
 repeat' first
  | ((with_reducible refine a1a ?_); refine a7t (fun y : {i : Nat // i <= l.length /\ kOk l i} => (⟨[.list 1 (ints l), .clo 74 [] [], .undef, .undef, .int .i64 0, .undef], [(7, .int .i64 (l.length : Int)), (8, .int .i64 (y.1 : Int))], hpL [], []⟩ : Fs)) (fun y => l.length - y.1) ⟨0, by simp, f7t l⟩ (a3m [] (fun _ h => h) (by rfl) ?_ ?_ ?_) ?_; (focus (simp [*, SIMF, NLQ, tL_, fA_, *]; done)); (focus (simp [*, SIMF, NLQ, tL_, fA_]; done)); (focus (simp [*, SIMF, NLQ, tL_, fA_, *]; done)); rintro ⟨i, hi, hk⟩; (try dsimp only at hi hk); rcases a0z hi with hlt | ⟨hlt, rfl⟩; have wi := wli hlt (by omega); cases hkb : a4d (l[i]'hlt))
  | ((with_reducible refine a0q ?_); refine a1b (⟨i + 1, by omega, f7s hk hlt hkb⟩) (a3m [] (fun _ h => h) (by rfl) ?_ ?_ ?_) (by dsimp only; omega); (iterate 3 (focus (simp [*, SIMF, NLQ, tL_, fA_, *]; done))))
  | with_reducible first | refine stp ?_ | refine stpK ?_; intro K hK | refine stpC ?_; intro T E hT hE | refine stp2 ?_ ?_ <;> intro h | refine a0g rfl ?_ | refine a1e (c33 _) (by simp [nls, nl, *, a0b, a0e, a0m, a0c, a0a]) ?_ | refine hpc (c33 _) (by simp [nls, nl, *, a0b, a0e, a0m, a0c, a0a]) ?_ | refine a0j rfl (by decide) a0i ?_ | refine a0j rfl (by decide) (a0h (by simp [upd, noH, ext, a4w, a3l, *])) ?_ | refine a1g (by decide) (by kernel_rfl) ?_ | refine a0o (by decide) ?_ | refine Kont.go hK ?_; clear hK K | refine KT.go hT ?_; clear hT hE T E | refine KT.go hE ?_; clear hT hE T E
  | simp [*, -List.all_flatten, -List.all_eq_true, DEFO, a0n, a0x, a1c, a3c, a1n, a0a, a0b, a0e, a0m, a0c, a4z, a2b, a2o, a9b, a6k, a2f, Ins.row, FnD.row, Gb.row, a3w, Int.le_sub_one_iff]
 all_goals first
  | (rw [d5y hlt hkb hk]; done)
  | (simp [d5y hlt hkb hk]; done)
  | (simp [e1i (fun j hj => hk j hj hj)]; done)
  | trace_state
theorem c32 (l : List Int) (hl : l.length <= 2000000) : PC Tryz.prog Gl 73 [.list 1 (ints l), .clo 74 [] []] (.bool (!(l.all a4d))) := by
 refine a8v (res := [.tmp 4]) 5 9 [] (fun d ix => d :: ix) (fn := Tryz.f73) (by kernel_rfl) (by rfl) (by rfl) (by rfl) (by simp) (by decide) ?_
 repeat' first
  | with_reducible first | refine stp ?_ | refine stpK ?_; intro K hK | refine stpC ?_; intro T E hT hE | refine stp2 ?_ ?_ <;> intro h | refine a0g rfl ?_ | refine a1e (c60 l hl) (by simp [nls, nl, *, a0b, a0e, a0m, a0c, a0a]) ?_ | refine hpc (c60 l hl) (by simp [nls, nl, *, a0b, a0e, a0m, a0c, a0a]) ?_ | refine a0j rfl (by decide) a0i ?_ | refine a0j rfl (by decide) (a0h (by simp [upd, noH, ext, a4w, a3l, *])) ?_ | refine a1g (by decide) (by kernel_rfl) ?_ | refine a0o (by decide) ?_ | refine Kont.go hK ?_; clear hK K | refine KT.go hT ?_; clear hT hE T E | refine KT.go hE ?_; clear hT hE T E
  | simp [*, -List.all_flatten, -List.all_eq_true, DEFO, a0n, a0x, a1c, a3c, a1n, a0a, a0b, a0e, a0m, a0c, a4z, a2b, a2o, a9b, a6k, a2f, Ins.row, FnD.row, Gb.row, a3w, Int.le_sub_one_iff, d5x]
 all_goals first
  | (simp [<- d5x]; done)
  | trace_state
@[simp] theorem f5s : arE Tryz.prog 49 = none /\ arE Tryz.prog 158 = none /\ arE Tryz.prog 138 = none /\ arE Tryz.prog 42 = none /\ arT Tryz.prog 47 = none /\ arT Tryz.prog 135 = none /\ arT Tryz.prog 136 = none /\ byT Tryz.prog 24 = (some 24) /\ byT Tryz.prog 141 = (some 8) /\ byT Tryz.prog 136 = (some 24) /\ fldT Tryz.prog 49 0 = (some 0) /\ fldT Tryz.prog 49 1 = (some 1) /\ fldT Tryz.prog 49 2 = (some 2) /\ fldT Tryz.prog 138 0 = (some 0) /\ fldT Tryz.prog 138 1 = (some 4) /\ fldT Tryz.prog 138 2 = (some 5) /\ fldT Tryz.prog 138 3 = (some 6) /\ fldT Tryz.prog 138 4 = (some 7) /\ fnOk Tryz.prog 53 = true /\ fnOk Tryz.prog 27 = true /\ fnOk Tryz.prog 32 = true /\ fnOk Tryz.prog 22 = true /\ fnOk Tryz.prog 177 = true /\ fnOk Tryz.prog 89 = true /\ fnOk Tryz.prog 92 = true /\ fnOk Tryz.prog 94 = true /\ fnOk Tryz.prog 64 = true /\ fnOk Tryz.prog 63 = true /\ fnOk Tryz.prog 90 = true /\ fnOk Tryz.prog 91 = true := by and_intros <;> kernel_rfl
@[simp] theorem f4a : fnOk Tryz.prog 61 = true /\ fnOk Tryz.prog 152 = true /\ fnOk Tryz.prog 140 = true /\ fnOk Tryz.prog 141 = true /\ fnOk Tryz.prog 112 = true /\ fnOk Tryz.prog 111 = true /\ fnOk Tryz.prog 110 = true /\ fnOk Tryz.prog 49 = true /\ fnOk Tryz.prog 174 = true /\ fnOk Tryz.prog 175 = true /\ fnOk Tryz.prog 176 = true /\ fnOk Tryz.prog 157 = true /\ fnOk Tryz.prog 153 = true /\ fnOk Tryz.prog 154 = true /\ fnOk Tryz.prog 155 = true /\ fnOk Tryz.prog 156 = true /\ fnOk Tryz.prog 12 = true /\ fnOk Tryz.prog 21 = true /\ fnOk Tryz.prog 202 = true /\ fnOk Tryz.prog 62 = true /\ fnOk Tryz.prog 178 = true /\ ldT Tryz.prog 46 = (some none) /\ ldT Tryz.prog 47 = (some none) /\ ldT Tryz.prog 49 = (some (some 3)) /\ ldT Tryz.prog 4 = (some none) /\ ldT Tryz.prog 131 = (some none) /\ ldT Tryz.prog 141 = (some none) /\ ldT Tryz.prog 158 = (some (some 0)) /\ ldT Tryz.prog 143 = (some none) /\ ldT Tryz.prog 134 = (some none) := by and_intros <;> kernel_rfl
@[simp] theorem f3x : ldT Tryz.prog 135 = (some none) /\ ldT Tryz.prog 136 = (some none) := by and_intros <;> kernel_rfl
@[simp] theorem b6q : mpT Tryz.prog 141 = (some (3, 158)) := by kernel_rfl
@[simp] theorem c2u : mpT Tryz.prog 134 = (some (98, 3)) := by kernel_rfl
@[simp] theorem e3s : a5d Tryz.prog 49 = (some ((0, 1) :: ((1, 1) :: ((2, 1) :: [])))) /\ a5d Tryz.prog 158 = (some []) /\ a5d Tryz.prog 138 = (some ((0, 4) :: ((4, 1) :: ((5, 1) :: ((6, 1) :: ((7, 1) :: [])))))) /\ a5d Tryz.prog 42 = (some ((0, 1) :: ((1, 1) :: ((2, 1) :: ((3, 1) :: ((4, 1) :: [])))))) /\ slT Tryz.prog 47 = (some (24, 1)) /\ slT Tryz.prog 141 = none /\ slT Tryz.prog 135 = (some (136, 1)) /\ slT Tryz.prog 136 = (some (141, 1)) /\ strT Tryz.prog 47 = false /\ strT Tryz.prog 141 = false /\ strT Tryz.prog 135 = false /\ strT Tryz.prog 136 = false /\ szT Tryz.prog 47 = (some 1) /\ szT Tryz.prog 49 = (some 3) /\ szT Tryz.prog 4 = (some 1) /\ szT Tryz.prog 98 = (some 2) /\ szT Tryz.prog 36 = (some 1) /\ szT Tryz.prog 131 = (some 1) /\ szT Tryz.prog 158 = (some 0) /\ szT Tryz.prog 143 = (some 1) /\ szT Tryz.prog 135 = (some 1) /\ szT Tryz.prog 136 = (some 1) /\ szT Tryz.prog 138 = (some 8) /\ a4l Tryz.prog 24 = (some (FV.nils :: [])) /\ a4l Tryz.prog 49 = (some (FV.nils :: (FV.nils :: (FV.nils :: [])))) /\ a4l Tryz.prog 4 = (some ((FV.bool false) :: [])) /\ a4l Tryz.prog 141 = (some (FV.nilm :: [])) /\ a4l Tryz.prog 158 = (some []) /\ a4l Tryz.prog 136 = (some (FV.nils :: [])) /\ a4l Tryz.prog 138 = (some (FV.nils :: (FV.nils :: (FV.nils :: ((FV.int Go.IntKind.i64 0) :: (FV.nils :: (FV.nilm :: (FV.nils :: (FV.nils :: []))))))))) := by and_intros <;> kernel_rfl
@[simp] theorem d5z : c1h Tryz.prog 3 = (some (FV.int Go.IntKind.i64 0)) := by kernel_rfl
@[simp] theorem c4j : c1h Tryz.prog 158 = (some (FV.agg [])) := by kernel_rfl
def a9e (l : List (List Int)) : List FV := [.list 1 (lays l)]
def lls (L : List (List (List Int))) : List (List FV) := L.map a9e
theorem a3i (L : List (List (List Int))) : (lls L).length = L.length := by simp [lls]
theorem e3f {L : List (List (List Int))} {i : Nat} (h : i < (lls L).length) : (lls L)[i] = a9e (L[i]'(by rwa [a3i] at h)) := by simp [lls]
theorem b8l (a b : List (List (List Int))) : lls (a ++ b) = lls a ++ lls b := by simp [lls]
theorem d3z (a : List (List Int)) : lls [a] = [a9e a] := rfl
theorem d4a : lls [] = [] := rfl
theorem a6d (n : Nat) (l : List (List (List Int))) : (lls l).take n = lls (l.take n) := by simp [lls, List.map_take]
theorem a1j (L : List (List (List Int))) : nlss (lls L) = true := by
 induction L with
 | nil => rfl
 | cons r rs ih => simpa [lls, nlss, nls, nl, a9e, a0c] using ih
theorem a6o (L : List (List (List Int))) : (lls L).flatten.all FV.cellV = true := by
 induction L with
 | nil => rfl
 | cons r rs ih => simp [lls, FV.cellV, a9e]
def b1z (s : Int × Int) : List FV := [.int .i64 s.1, .int .i64 s.2]
def sits (L : List (Int × Int)) : List (List FV) := L.map b1z
theorem a1u (L : List (Int × Int)) : (sits L).length = L.length := by simp [sits]
theorem d2f {L : List (Int × Int)} {i : Nat} (h : i < (sits L).length) : (sits L)[i] = b1z (L[i]'(by rwa [a1u] at h)) := by simp [sits]
theorem c3r (a b : List (Int × Int)) : sits (a ++ b) = sits a ++ sits b := by simp [sits]
theorem d8w (a : Int × Int) : sits [a] = [b1z a] := rfl
theorem d8x : sits [] = [] := rfl
theorem c1s (n : Nat) (l : List (Int × Int)) : (sits l).take n = sits (l.take n) := by simp [sits, List.map_take]
theorem a0v (L : List (Int × Int)) : nlss (sits L) = true := by
 induction L with
 | nil => rfl
 | cons r rs ih => simpa [sits, nlss, nls, nl, b1z] using ih
theorem a5f (L : List (Int × Int)) : (sits L).flatten.all FV.cellV = true := by
 induction L with
 | nil => rfl
 | cons r rs ih => simp [sits, FV.cellV, b1z]
theorem szn {n k : Nat} (h : n <= 1000000000) (hk : k <= 100) : (n + n / 4 + 192) * k <= 140737488355328 := by
 have h1 : n + n / 4 + 192 <= 1300000000 := by omega
 have := Nat.mul_le_mul h1 hk
 omega
theorem d4g (l : List (List Int)) {i : Nat} (h : i < l.length) : lays (l.take (i + 1)) = lays (l.take i) ++ [[.list 1 (ints l[i])]] := by
 rw [List.take_add_one, gE_ h, a8p]; rfl
theorem f8j (n : Int) : fMax (.int .i64 0) [.int .i64 n] = some (.int .i64 (mx0 n)) := by simp [fMax, mx0]
theorem wlen (n : Nat) (h : n <= 1000000000) : IntKind.wrap .i64 (1 + (n : Int)) = 1 + (n : Int) := by rw [IntKind.wrap_i64]; omega
theorem a9w (n : Nat) (l : List Int) : (ints l).drop n = ints (l.drop n) := by simp [ints, List.map_drop]
theorem a9k (l : List Int) (i : Nat) : (l.drop i).take (l.length - i) = l.drop i := by rw [tL_]; simp
theorem c5v (l : List Int) {i : Nat} (h : i <= l.length) (a : List FV) : List.take (i + 1) (ints (List.take i l) ++ [a]) = ints (List.take i l) ++ [a] := by
 rw [tL_]; simp [a0n]; omega
theorem c5u (l : List Int) {i : Nat} (h : i <= l.length) (a : List FV) : List.take (l.length + 1) (ints (List.take i l) ++ a :: ints (List.drop i l)) = ints (List.take i l) ++ a :: ints (List.drop i l) := by
 rw [tL_]; simp [a0n]; omega
theorem b1w (l : List Int) (a : List FV) : List.take (l.length + 1) (ints l ++ [a]) = ints l ++ [a] := by
 rw [tL_]; simp [a0n]
theorem a4y (a : Int) (l : List Int) : ints (a :: l) = [.int .i64 a] :: ints l := rfl
theorem c8z {n i : Nat} (h : i <= n) : i + (n - i + 1) = n + 1 := by omega
theorem c3g {n i : Nat} (h : i <= n) : i + 1 + (n - i) = n + 1 := by omega
theorem e1v (a n : Int) : (a < n /\ ¬ a = n) \/ (¬ a < n /\ a = n) \/ (¬ a < n /\ ¬ a = n) := by omega
end Go.Je
namespace Go.Je
open Go Go.FM Go.Gv Go.Proofs
set_option maxRecDepth 100000
set_option linter.defProp false
theorem e3r {H : Heap} {k : Nat} {xs : List (List FV)} (h : nlss xs = true) : frzR H (k + 1) xs = some xs := by
 unfold frzR
 rw [if_pos h]
def HPXB := And.intro @Go.FM.a1k (And.intro @Go.FM.a1d (And.intro @Go.FM.b0u (And.intro @Go.FM.a3t (And.intro @Go.FM.b7h (And.intro @Go.FM.a1v (And.intro @Go.FM.a1p (And.intro @Go.FM.b0g (And.intro @Go.FM.a8b (@Go.FM.a1w)))))))))
def NLXB := And.intro @Go.FM.nls.eq_1 (And.intro @Go.FM.nls.eq_2 (And.intro @Go.FM.nl.eq_1 (And.intro @Go.FM.nl.eq_2 (And.intro @Go.FM.nl.eq_3 (And.intro @Go.FM.nl.eq_4 (And.intro @Go.FM.nl.eq_5 (And.intro @Go.FM.nl.eq_6 (And.intro @Go.FM.nl.eq_7 (And.intro @Go.FM.nl.eq_8 (And.intro @Go.FM.nl.eq_9 (And.intro @Go.FM.nl.eq_10 (And.intro @Go.FM.nl.eq_11 (And.intro @Go.FM.nl.eq_12 (And.intro @Go.FM.nl.eq_13 (And.intro @Go.FM.nl.eq_14 (And.intro @Go.FM.nl.eq_15 (And.intro @Go.FM.nl.eq_16 (And.intro @Go.FM.nl.eq_17 (And.intro @Go.Je.a0a (And.intro @Go.Je.a0b (And.intro @Go.Je.a0e (And.intro @Go.Je.a0m (And.intro @Go.Je.a0c (And.intro @Go.Je.a2w (And.intro @Go.Je.a1j (@Go.Je.a0v))))))))))))))))))))))))))
def SIMB := And.intro @Go.FM.d9z (And.intro @Go.FM.e6y (And.intro @Go.FM.f2i (And.intro @Go.FM.e6z (And.intro @Go.FM.mV.eq_def (And.intro @Go.FM.mSl.eq_def (And.intro @Go.FM.mPt.eq_def (And.intro @Go.FM.mMp.eq_def (And.intro @Go.FM.b8g (And.intro @Go.FM.c6x (And.intro @Go.FM.d3q (And.intro @Go.FM.a4q (And.intro @Go.FM.nlss.eq_1 (And.intro @Go.FM.nlss.eq_2 (And.intro @Go.FM.nls.eq_1 (And.intro @Go.FM.nls.eq_2 (And.intro @Go.FM.nl.eq_1 (And.intro @Go.FM.nl.eq_2 (And.intro @Go.FM.nl.eq_3 (And.intro @Go.FM.nl.eq_4 (And.intro @Go.FM.nl.eq_5 (And.intro @Go.FM.nl.eq_6 (And.intro @Go.FM.nl.eq_7 (And.intro @Go.FM.nl.eq_8 (And.intro @Go.FM.nl.eq_9 (And.intro @Go.FM.nl.eq_10 (And.intro @Go.FM.nl.eq_11 (And.intro @Go.FM.nl.eq_12 (And.intro @Go.FM.nl.eq_13 (And.intro @Go.FM.nl.eq_14 (And.intro @Go.FM.nl.eq_15 (And.intro @Go.FM.nl.eq_16 (And.intro @Go.FM.nl.eq_17 (And.intro @Go.FM.a9d.eq_1 (And.intro @Go.FM.a9d.eq_2 (And.intro @Go.FM.a9d.eq_3 (And.intro @Go.FM.simV.eq_def (And.intro @Go.FM.simT.eq_1 (And.intro @Go.FM.simT.eq_2 (And.intro @Go.FM.simH.eq_1 (And.intro @Go.FM.simH.eq_2 (And.intro @Go.FM.simO.eq_def (And.intro @Go.FM.renO.eq_def (And.intro @Go.FM.innO.eq_def (And.intro @Go.FM.ren.eq_1 (And.intro @Go.FM.ren.eq_2 (And.intro @Go.FM.ren.eq_3 (And.intro @Go.FM.ren.eq_4 (And.intro @Go.FM.ren.eq_5 (And.intro @Go.FM.ren.eq_6 (And.intro @Go.FM.ren.eq_7 (And.intro @Go.FM.inn.eq_1 (And.intro @Go.FM.inn.eq_2 (And.intro @Go.FM.inn.eq_3 (And.intro @Go.FM.inn.eq_4 (And.intro @Go.FM.inn.eq_5 (And.intro @Go.FM.inn.eq_6 (And.intro @Go.FM.inn.eq_7 (And.intro @Go.FM.inn.eq_8 (And.intro @Go.FM.inn.eq_9 (And.intro @Go.FM.rens.eq_1 (And.intro @Go.FM.rens.eq_2 (And.intro @Go.FM.inns.eq_1 (And.intro @Go.FM.inns.eq_2 (And.intro @Go.FM.renss.eq_1 (And.intro @Go.FM.renss.eq_2 (And.intro @Go.FM.a6v.eq_1 (And.intro @Go.FM.a6v.eq_2 (And.intro @Go.FM.rene.eq_1 (And.intro @Go.FM.rene.eq_2 (And.intro @Go.FM.inne.eq_1 (And.intro @Go.FM.inne.eq_2 (And.intro @Go.FM.bk.eq_1 (And.intro @Go.FM.bk.eq_2 (And.intro @Go.FM.lk.eq_1 (And.intro @Go.FM.lk.eq_2 (And.intro @Go.FM.a1k (And.intro @Go.FM.a1d (And.intro @Go.FM.b0u (And.intro @Go.FM.a3t (And.intro @Go.FM.b7h (And.intro @Go.FM.a1v (And.intro @Go.FM.a1p (And.intro @Go.FM.b0g (And.intro @Go.FM.a8b (And.intro @Go.FM.a1w (And.intro @List.cons_append.{0} (And.intro @List.nil_append.{0} (And.intro @List.append_nil.{0} (And.intro @Go.FM.b0h (And.intro @Go.FM.b0o (And.intro @Go.FM.a9t (And.intro @Go.FM.a9x (And.intro @Go.Je.a0a (And.intro @Go.Je.a0n (And.intro @Go.Je.a4c (And.intro @Go.Je.a6n (And.intro @Go.Je.a2r (And.intro @Go.Je.a3x (And.intro @Go.Je.a0b (And.intro @Go.Je.a0x (And.intro @Go.Je.b6d (And.intro @Go.Je.c7j (And.intro @Go.Je.c7k (And.intro @Go.Je.d4p (And.intro @Go.Je.a0e (And.intro @Go.Je.a1c (And.intro @Go.Je.b8q (And.intro @Go.Je.d5p (And.intro @Go.Je.d5q (And.intro @Go.Je.e1b (And.intro @Go.Je.a0m (And.intro @Go.Je.a3c (And.intro @Go.Je.b8p (And.intro @Go.Je.d5j (And.intro @Go.Je.d5k (And.intro @Go.Je.e0w (And.intro @Go.Je.a0c (And.intro @Go.Je.a1n (And.intro @Go.Je.a8p (And.intro @Go.Je.c7d (And.intro @Go.Je.b0m (And.intro @Go.Je.a4x (And.intro @Go.Je.a2w (And.intro @Go.Je.a2e (And.intro @Go.Je.a2k (And.intro @Go.Je.a5c (And.intro @Go.Je.a4v (And.intro @Go.Je.a4f (And.intro @Go.Je.a1j (And.intro @Go.Je.a3i (And.intro @Go.Je.b8l (And.intro @Go.Je.d3z (And.intro @Go.Je.d4a (And.intro @Go.Je.a6d (And.intro @Go.Je.a0v (And.intro @Go.Je.a1u (And.intro @Go.Je.c3r (And.intro @Go.Je.d8w (And.intro @Go.Je.d8x (And.intro @Go.Je.c1s (And.intro @Go.Je.b1z.eq_def (And.intro @List.take_take.{0} (And.intro @Nat.min_self (And.intro @List.length_append.{0} (And.intro @List.take_of_length_le.{0} (@List.filter_append.{0}))))))))))))))))))))))))))))))))))))))))))))))))))))))))))))))))))))))))))))))))))))))))))))))))))))))))))))))))))))))))))))))))))))))))))))))))))
def LPXB := And.intro @Go.FM.b9m (And.intro @Go.FM.b5o (And.intro @List.set_cons_zero.{0} (And.intro @List.set_cons_succ.{0} (And.intro @Go.FM.b5p (And.intro @Go.FM.b2w (And.intro @Go.FM.b0g (And.intro @Go.FM.a8b (And.intro @Go.FM.c0y (And.intro @Go.FM.b6y (And.intro @Go.FM.c0x (And.intro @Go.FM.a8g.eq_def (And.intro @List.map_cons.{0,0} (And.intro @List.map_nil.{0,0} (And.intro @Go.FM.lk.eq_1 (And.intro @Go.FM.lk.eq_2 (And.intro @List.nil_append.{0} (And.intro @List.cons_append.{0} (And.intro @List.append_nil.{0} (And.intro @List.contains_cons.{0} (And.intro @List.contains_nil.{0} (@List.cons.injEq.{0})))))))))))))))))))))
def LENB := And.intro @Go.Je.a0n (And.intro @Go.Je.a0a (And.intro @Go.Je.a4z (And.intro @Go.Je.a0x (And.intro @Go.Je.a0b (And.intro @Go.Je.a2b (And.intro @Go.Je.a1c (And.intro @Go.Je.a0e (And.intro @Go.Je.a2o (And.intro @Go.Je.a3c (And.intro @Go.Je.a0m (And.intro @Go.Je.a9b (And.intro @Go.Je.a1n (And.intro @Go.Je.a0c (And.intro @Go.Je.a6k (And.intro @Go.Je.a3i (And.intro @Go.Je.a1j (And.intro @Go.Je.e3f (And.intro @Go.Je.a1u (And.intro @Go.Je.a0v (And.intro @Go.Je.d2f (And.intro @Go.Je.a2f.eq_def (And.intro @Go.Gv.Ins.row.eq_def (And.intro @Go.Gv.FnD.row.eq_def (And.intro @Go.Gv.Gb.row.eq_def (And.intro @Go.Je.a3w.eq_def (And.intro @Go.Je.a9e.eq_def (@Go.Je.b1z.eq_def)))))))))))))))))))))))))))
def DEFB := And.intro @Go.FM.a1l (And.intro @Go.FM.Fs.init.eq_def (And.intro @Go.FM.Fs.get.eq_def (And.intro @Go.FM.Fs.put.eq_def (And.intro @Go.FM.Fs.clean.eq_def (And.intro @Go.FM.lk.eq_1 (And.intro @Go.FM.lk.eq_2 (And.intro @Go.FM.upd.eq_def (And.intro @Go.FM.ext.eq_def (And.intro @Go.FM.cv1.eq_def (And.intro @Go.FM.cv.eq_def (And.intro @Go.FM.rv.eq_def (And.intro @Go.FM.FV.isU.eq_def (And.intro @Go.FM.FV.cellV.eq_def (And.intro @Go.FM.FV.cellsL.eq_def (And.intro @Go.FM.FV.storable.eq_def (And.intro @Go.FM.b4f.eq_def (And.intro @Go.FM.b6u.eq_def (And.intro @Go.FM.b6t.eq_def (And.intro @Go.FM.fLen.eq_def (And.intro @Go.FM.fBin.eq_def (And.intro @Go.FM.fUn.eq_def (And.intro @Go.FM.c4q.eq_def (And.intro @Go.FM.b7n.eq_def (And.intro @Go.FM.b6s.eq_def (And.intro @Go.FM.a7x.eq_1 (And.intro @Go.FM.a7x.eq_2 (And.intro @Go.FM.b2q.eq_1 (And.intro @Go.FM.b2q.eq_2 (And.intro @Go.FM.pv.eq_def (And.intro @Go.FM.pv1.eq_def (And.intro @Go.FM.pv2.eq_def (And.intro @Go.FM.wv.eq_def (And.intro @Go.FM.b3t.eq_def (And.intro @Go.FM.wBox.eq_def (And.intro @Go.FM.a7v.eq_def (And.intro @Go.FM.a7c.eq_def (And.intro @Go.FM.b3s.eq_def (And.intro @Go.FM.b1v.eq_def (And.intro @Go.FM.b1f.eq_def (And.intro @Go.FM.wApp.eq_def (And.intro @Go.FM.srcA.eq_def (And.intro @Go.FM.a6q.eq_1 (And.intro @Go.FM.a6q.eq_2 (And.intro @Go.FM.upds.eq_def (And.intro @List.foldl_cons.{0,0} (And.intro @List.foldl_nil.{0,0} (And.intro @Go.FM.b2s.eq_def (And.intro @Go.FM.fNil.eq_def (And.intro @Go.FM.fUn2.eq_def (And.intro @Go.FM.c4r.eq_def (And.intro @Go.FM.fCmp.eq_def (And.intro @Go.FM.c2v.eq_def (And.intro @Go.FM.eqK.eq_1 (And.intro @Go.FM.eqK.eq_2 (And.intro @Go.FM.a3q.eq_1 (And.intro @Go.FM.a3q.eq_2 (And.intro @Go.FM.a3q.eq_3 (And.intro @Go.FM.eqV.eq_1 (And.intro @Go.FM.eqV.eq_2 (And.intro @Go.FM.eqV.eq_3 (And.intro @Go.FM.eqV.eq_4 (And.intro @Go.FM.FV.kd.eq_def (And.intro @Go.FM.c4s.eq_def (And.intro @Go.FM.nilV.eq_def (And.intro @Go.FM.putD.eq_def (And.intro @Go.FM.a1r.eq_def (And.intro @Go.FM.a2d.eq_def (And.intro @Go.FM.b0w.eq_1 (And.intro @Go.FM.b0w.eq_2 (And.intro @Go.FM.a4b.eq_def (And.intro @Go.FM.b7s.eq_def (And.intro @Go.FM.resV.eq_def (And.intro @Go.FM.resL.eq_1 (And.intro @Go.FM.resL.eq_2 (And.intro @Go.FM.a3n.eq_def (And.intro @Go.FM.StK.eq_def (And.intro @Go.FM.b4j (And.intro @Go.FM.b1u (And.intro @Go.FM.e2o (And.intro @Go.FM.e2p (And.intro @Go.FM.c9e (And.intro @Go.FM.c9f (And.intro @Go.FM.b7p.eq_def (And.intro @Go.FM.HG_t (And.intro @Go.FM.HG_f (And.intro @Go.FM.e2m (And.intro @Go.FM.e2n (And.intro @Go.FM.nl.eq_1 (And.intro @Go.FM.nl.eq_2 (And.intro @Go.FM.nl.eq_3 (And.intro @Go.FM.nl.eq_4 (And.intro @Go.FM.nl.eq_5 (And.intro @Go.FM.nl.eq_6 (And.intro @Go.FM.nl.eq_7 (And.intro @Go.FM.nl.eq_8 (And.intro @Go.FM.nl.eq_9 (And.intro @Go.FM.nl.eq_10 (And.intro @Go.FM.nl.eq_11 (And.intro @Go.FM.nl.eq_12 (And.intro @Go.FM.nl.eq_13 (And.intro @Go.FM.nl.eq_14 (And.intro @Go.FM.nl.eq_15 (And.intro @Go.FM.nl.eq_16 (And.intro @Go.FM.nl.eq_17 (And.intro @Go.FM.nls.eq_1 (And.intro @Go.FM.nls.eq_2 (And.intro @Go.FM.nlss.eq_1 (And.intro @Go.FM.nlss.eq_2 (And.intro @Go.FM.frz.eq_1 (And.intro @Go.FM.frz.eq_2 (And.intro @Go.FM.frz.eq_3 (And.intro @Go.FM.frz.eq_4 (And.intro @Go.FM.frz.eq_5 (And.intro @Go.FM.frzs.eq_1 (And.intro @Go.FM.frzs.eq_2 (And.intro @Go.FM.frzs.eq_3 (And.intro @Go.FM.frzR.eq_1 (And.intro @Go.FM.frzR.eq_2 (And.intro @Go.FM.frzR.eq_3 (And.intro @e3r (And.intro @Go.FM.asR.eq_1 (And.intro @Go.FM.asR.eq_2 (And.intro @Go.FM.asR.eq_3 (And.intro @Go.FM.asR.eq_4 (And.intro @Go.FM.asRs.eq_1 (And.intro @Go.FM.asRs.eq_2 (And.intro @Go.FM.Fend.eq_def (And.intro @Go.FM.c9a (And.intro @Go.FM.b5a (And.intro @Go.FM.b2o (And.intro @Go.FM.frzN.eq_def (And.intro @Go.FM.nf.eq_1 (And.intro @Go.FM.nf.eq_2 (And.intro @Go.FM.nf.eq_3 (And.intro @Go.FM.nf.eq_4 (And.intro @Go.FM.nf.eq_5 (And.intro @Go.FM.nf.eq_6 (And.intro @Go.FM.nf.eq_7 (And.intro @Go.FM.nf.eq_8 (And.intro @Go.FM.nf.eq_9 (And.intro @Go.FM.nf.eq_10 (And.intro @Go.FM.nf.eq_11 (And.intro @Go.FM.nf.eq_12 (And.intro @Go.FM.nf.eq_13 (And.intro @Go.FM.nf.eq_14 (And.intro @Go.FM.nf.eq_15 (And.intro @Go.FM.nf.eq_16 (And.intro @Go.FM.nf.eq_17 (And.intro @Go.FM.nfs.eq_1 (And.intro @Go.FM.nfs.eq_2 (And.intro @Go.FM.a8q.eq_def (And.intro @Go.FM.b3j.eq_def (And.intro @Go.FM.a1k (And.intro @Go.FM.a1d (And.intro @Go.FM.b0u (And.intro @Go.FM.a3t (And.intro @Go.FM.b7h (And.intro @Go.FM.a1v (And.intro @Go.FM.a1p (And.intro @Go.FM.b0g (And.intro @Go.FM.a8b (And.intro @Go.FM.a1w (And.intro @Go.FM.b1q.eq_def (And.intro @Go.FM.lpS.eq_def (And.intro @Go.FM.b9m (And.intro @Go.FM.b5o (And.intro @List.set_cons_zero.{0} (And.intro @List.set_cons_succ.{0} (And.intro @Go.FM.b5p (And.intro @Go.FM.b2w (And.intro @Go.FM.c0y (And.intro @Go.FM.b6y (And.intro @Go.FM.c0x (And.intro @Go.FM.a8g.eq_def (And.intro @List.cons.injEq.{0} (@List.contains_cons.{0}))))))))))))))))))))))))))))))))))))))))))))))))))))))))))))))))))))))))))))))))))))))))))))))))))))))))))))))))))))))))))))))))))))))))))))))))))))))))))))))))))))))))))))))))
def DEFM := And.intro @Go.FM.a1l (And.intro @Go.FM.Fs.init.eq_def (And.intro @Go.FM.Fs.get.eq_def (And.intro @Go.FM.Fs.put.eq_def (And.intro @Go.FM.Fs.clean.eq_def (And.intro @Go.FM.lk.eq_1 (And.intro @Go.FM.lk.eq_2 (And.intro @Go.FM.upd.eq_def (And.intro @Go.FM.ext.eq_def (And.intro @Go.FM.cv1.eq_def (And.intro @Go.FM.cv.eq_def (And.intro @Go.FM.rv.eq_def (And.intro @Go.FM.FV.isU.eq_def (And.intro @Go.FM.FV.cellV.eq_def (And.intro @Go.FM.FV.cellsL.eq_def (And.intro @Go.FM.FV.storable.eq_def (And.intro @Go.FM.b4f.eq_def (And.intro @Go.FM.b6u.eq_def (And.intro @Go.FM.b6t.eq_def (And.intro @Go.FM.fLen.eq_def (And.intro @Go.FM.fBin.eq_def (And.intro @Go.FM.fUn.eq_def (And.intro @Go.FM.c4q.eq_def (And.intro @Go.FM.b7n.eq_def (And.intro @Go.FM.b6s.eq_def (And.intro @Go.FM.a7x.eq_1 (And.intro @Go.FM.a7x.eq_2 (And.intro @Go.FM.b2q.eq_1 (And.intro @Go.FM.b2q.eq_2 (And.intro @Go.FM.pv.eq_def (And.intro @Go.FM.pv1.eq_def (And.intro @Go.FM.pv2.eq_def (And.intro @Go.FM.wv.eq_def (And.intro @Go.FM.b3t.eq_def (And.intro @Go.FM.wBox.eq_def (And.intro @Go.FM.a7v.eq_def (And.intro @Go.FM.a7c.eq_def (And.intro @Go.FM.b3s.eq_def (And.intro @Go.FM.b1v.eq_def (And.intro @Go.FM.wApp.eq_def (And.intro @Go.FM.srcA.eq_def (And.intro @Go.FM.a6q.eq_1 (And.intro @Go.FM.a6q.eq_2 (And.intro @Go.FM.upds.eq_def (And.intro @List.foldl_cons.{0,0} (And.intro @List.foldl_nil.{0,0} (And.intro @Go.FM.fNil.eq_def (And.intro @Go.FM.fUn2.eq_def (And.intro @Go.FM.c4r.eq_def (And.intro @Go.FM.fCmp.eq_def (And.intro @Go.FM.c2v.eq_def (And.intro @Go.FM.eqK.eq_1 (And.intro @Go.FM.eqK.eq_2 (And.intro @Go.FM.a3q.eq_1 (And.intro @Go.FM.a3q.eq_2 (And.intro @Go.FM.a3q.eq_3 (And.intro @Go.FM.eqV.eq_1 (And.intro @Go.FM.eqV.eq_2 (And.intro @Go.FM.eqV.eq_3 (And.intro @Go.FM.eqV.eq_4 (And.intro @Go.FM.FV.kd.eq_def (And.intro @Go.FM.c4s.eq_def (And.intro @Go.FM.nilV.eq_def (And.intro @Go.FM.putD.eq_def (And.intro @Go.FM.a1r.eq_def (And.intro @Go.FM.a2d.eq_def (And.intro @Go.FM.b0w.eq_1 (And.intro @Go.FM.b0w.eq_2 (And.intro @Go.FM.a4b.eq_def (And.intro @Go.FM.b7s.eq_def (And.intro @Go.FM.resV.eq_def (And.intro @Go.FM.resL.eq_1 (And.intro @Go.FM.resL.eq_2 (And.intro @Go.FM.a3n.eq_def (And.intro @Go.FM.StK.eq_def (And.intro @Go.FM.b4j (And.intro @Go.FM.b1u (And.intro @Go.FM.e2o (And.intro @Go.FM.e2p (And.intro @Go.FM.c9e (And.intro @Go.FM.c9f (And.intro @Go.FM.b7p.eq_def (And.intro @Go.FM.HG_t (And.intro @Go.FM.HG_f (And.intro @Go.FM.e2m (And.intro @Go.FM.e2n (And.intro @Go.FM.nl.eq_1 (And.intro @Go.FM.nl.eq_2 (And.intro @Go.FM.nl.eq_3 (And.intro @Go.FM.nl.eq_4 (And.intro @Go.FM.nl.eq_5 (And.intro @Go.FM.nl.eq_6 (And.intro @Go.FM.nl.eq_7 (And.intro @Go.FM.nl.eq_8 (And.intro @Go.FM.nl.eq_9 (And.intro @Go.FM.nl.eq_10 (And.intro @Go.FM.nl.eq_11 (And.intro @Go.FM.nl.eq_12 (And.intro @Go.FM.nl.eq_13 (And.intro @Go.FM.nl.eq_14 (And.intro @Go.FM.nl.eq_15 (And.intro @Go.FM.nl.eq_16 (And.intro @Go.FM.nl.eq_17 (And.intro @Go.FM.nls.eq_1 (And.intro @Go.FM.nls.eq_2 (And.intro @Go.FM.nlss.eq_1 (And.intro @Go.FM.nlss.eq_2 (And.intro @Go.FM.frz.eq_1 (And.intro @Go.FM.frz.eq_2 (And.intro @Go.FM.frz.eq_3 (And.intro @Go.FM.frz.eq_4 (And.intro @Go.FM.frz.eq_5 (And.intro @Go.FM.frzs.eq_1 (And.intro @Go.FM.frzs.eq_2 (And.intro @Go.FM.frzs.eq_3 (And.intro @Go.FM.frzR.eq_1 (And.intro @Go.FM.frzR.eq_2 (And.intro @Go.FM.frzR.eq_3 (And.intro @e3r (And.intro @Go.FM.asR.eq_1 (And.intro @Go.FM.asR.eq_2 (And.intro @Go.FM.asR.eq_3 (And.intro @Go.FM.asR.eq_4 (And.intro @Go.FM.asRs.eq_1 (And.intro @Go.FM.asRs.eq_2 (And.intro @Go.FM.Fend.eq_def (And.intro @Go.FM.c9a (And.intro @Go.FM.b5a (And.intro @Go.FM.b2o (And.intro @Go.FM.frzN.eq_def (And.intro @Go.FM.nf.eq_1 (And.intro @Go.FM.nf.eq_2 (And.intro @Go.FM.nf.eq_3 (And.intro @Go.FM.nf.eq_4 (And.intro @Go.FM.nf.eq_5 (And.intro @Go.FM.nf.eq_6 (And.intro @Go.FM.nf.eq_7 (And.intro @Go.FM.nf.eq_8 (And.intro @Go.FM.nf.eq_9 (And.intro @Go.FM.nf.eq_10 (And.intro @Go.FM.nf.eq_11 (And.intro @Go.FM.nf.eq_12 (And.intro @Go.FM.nf.eq_13 (And.intro @Go.FM.nf.eq_14 (And.intro @Go.FM.nf.eq_15 (And.intro @Go.FM.nf.eq_16 (And.intro @Go.FM.nf.eq_17 (And.intro @Go.FM.nfs.eq_1 (And.intro @Go.FM.nfs.eq_2 (And.intro @Go.FM.a8q.eq_def (And.intro @Go.FM.b3j.eq_def (And.intro @Go.FM.a1k (And.intro @Go.FM.a1d (And.intro @Go.FM.b0u (And.intro @Go.FM.a3t (And.intro @Go.FM.b7h (And.intro @Go.FM.a1v (And.intro @Go.FM.a1p (And.intro @Go.FM.b0g (And.intro @Go.FM.a8b (And.intro @Go.FM.a1w (And.intro @Go.FM.b1q.eq_def (And.intro @Go.FM.lpS.eq_def (And.intro @Go.FM.b9m (And.intro @Go.FM.b5o (And.intro @List.set_cons_zero.{0} (And.intro @List.set_cons_succ.{0} (And.intro @Go.FM.b5p (And.intro @Go.FM.b2w (And.intro @Go.FM.c0y (And.intro @Go.FM.b6y (And.intro @Go.FM.c0x (And.intro @Go.FM.a8g.eq_def (And.intro @List.cons.injEq.{0} (@List.contains_cons.{0}))))))))))))))))))))))))))))))))))))))))))))))))))))))))))))))))))))))))))))))))))))))))))))))))))))))))))))))))))))))))))))))))))))))))))))))))))))))))))))))))))))))))))))))
end Go.Je
namespace Go.Je
open Go Go.FM Go.Gv Go.Proofs
set_option maxRecDepth 100000
set_option maxHeartbeats 40000000
theorem e5n (l : List Int) (n : Int) (hl : l.length <= 1000000000) : PC Tryz.prog Gl 21 [.list 1 (ints l), .int .i64 n] (.bool (hasI l n)) := by
 refine a3s (res := [.tmp 4]) 6 18 [] (fun d ix => 0 :: d :: ix) (fn := Tryz.f21) (by kernel_rfl) (by rfl) (by rfl) (by rfl) (by simp) (by decide) ?_
 repeat' first
  | ((with_reducible refine a1a ?_); refine a1q (σ := {i : Nat // i <= l.length /\ noI l n i}) (fun y => [(5, .int .i64 (y.1 : Int))]) [] (fun y => []) [] (fun y => []) (fun y => noH) (fun y => l.length - y.1) ⟨0, by simp, f7k l n⟩ (gk3 (j := 0) [] (Bs.pc _) ?_ ?_ ?_ ?_ ?_ ?_ ?_) ?_; (iterate 7 (focus (first | rfl | (simp [LPXB, *, SIMB, hdN, injB]; done)))); rintro ⟨i, hi, hk⟩; simp only [lpS, LPXB]; (try dsimp only at hi hk); rcases a0z hi with hlt | ⟨hlt, rfl⟩; have wi := wli hlt (by omega); by_cases he : (l[i]'hlt) = n)
  | ((with_reducible refine a0q ?_); refine a1b (⟨i + 1, by omega, f7j hk hlt he⟩) (gk3 (j := 0) [] (Bs.pc _) ?_ ?_ ?_ ?_ ?_ ?_ ?_) ?_; (iterate 7 (focus (first | rfl | (simp [LPXB, *, SIMB, hdN, injB]; done)))); (focus (dsimp only; omega)))
  | with_reducible first | refine stp ?_ | refine stpK ?_; intro K hK | refine stpC ?_; intro T E hT hE | refine stp2 ?_ ?_ <;> intro h | refine a0g rfl ?_ | refine a0j rfl (lbR rfl) a0i ?_ | refine a0j rfl (lbR rfl) (a0h (by simp [HPXB, ext, upd, *])) ?_ | refine a1g (by decide) (by kernel_rfl) ?_ | refine a0o (by decide) ?_ | refine Kont.go hK ?_; clear hK K | refine KT.go hT ?_; clear hT hE T E | refine KT.go hE ?_; clear hT hE T E
  | simp [*, -List.all_flatten, -List.all_eq_true, DEFB, LENB]
 all_goals first
  | (rw [d5e hlt he]; done)
  | (simp [d5e hlt he]; done)
  | (rw [d5d hk]; done)
  | (simp [d5d hk]; done)
  | trace_state
@[simp] theorem b0t : Program.eqGuardType Tryz.prog (Program.depth Tryz.prog) 36 = false /\ b7t Tryz.prog 36 = false /\ fnOk Tryz.prog 58 = true /\ fnOk Tryz.prog 33 = true /\ fnOk Tryz.prog 104 = true /\ fnOk Tryz.prog 107 = true /\ fnOk Tryz.prog 108 = true /\ fnOk Tryz.prog 109 = true /\ fnOk Tryz.prog 150 = true /\ fnOk Tryz.prog 132 = true /\ intT Tryz.prog 36 = none /\ kdT Tryz.prog 36 = none /\ nilT Tryz.prog 36 = (some Go.FM.NK.sl) /\ slT Tryz.prog 131 = none /\ stT Tryz.prog 36 = none /\ strT Tryz.prog 131 = false /\ szT Tryz.prog 141 = (some 1) := by and_intros <;> kernel_rfl
end Go.Je
namespace Go.Gv
open Go Go.FM
set_option maxRecDepth 100000
set_option maxHeartbeats 40000000
structure Least (p : Pg) (x : Pts) : Prop where
 form : Form p x
 conds : a5t p x
 least : ∀ z, a5t p z -> z.sites = a0l p -> sub x z
theorem c2l {p : Pg} {x y : Pts} (hx : Form p x) (hy : Form p y) (h : sub x y) : le x y := by
 refine ⟨h.1, by rw [hx.cn, hy.cn], by rw [hx.rn, hy.rn], fun f => ?_, fun f a o ho => a9m h f a o ho, fun c o ho => b5l h c o ho⟩
 rw [gD_, gD_]
 by_cases hf : f < p.funcs.length
 . have h1 : f < x.regs.length := by rw [hx.rn]; exact hf
   have h2 : f < y.regs.length := by rw [hy.rn]; exact hf
   rw [gE_ h1, gE_ h2, gS_, gS_]
   have := hx.fn f h1 hf
   have := hy.fn f h2 hf
   omega
 . rw [gn_ (l := x.regs) (by rw [hx.rn]; omega), gn_ (l := y.regs) (by rw [hy.rn]; omega)]
theorem Least.unique {p : Pg} {x y : Pts} (hx : Least p x) (hy : Least p y) : x = y :=
 le.anti hx.form hy.form (c2l hx.form hy.form (hx.least y hy.conds hy.form.sites)) (c2l hy.form hx.form (hy.least x hx.conds hx.form.sites))
theorem a8r : ∀ (b a : List Int), inc a -> inc b -> (∀ x ∈ a, x ∈ b) -> List.Sublist a b
 | [], a, _, _, h => by
   cases a with
   | nil => exact List.Sublist.refl _
   | cons d a => exact absurd (h d (by simp)) (by simp)
 | c :: b, [], _, _, _ => List.nil_sublist _
 | c :: b, d :: a, ha, hb, h => by
   obtain ⟨ha1, ha2⟩ := List.pairwise_cons.1 ha
   obtain ⟨hb1, hb2⟩ := List.pairwise_cons.1 hb
   by_cases e : d = c
   . subst e
     refine List.Sublist.cons_cons _ (a8r b a ha2 hb2 fun x hx => ?_)
     rcases List.mem_cons.1 (h x (by simp [hx])) with e | e
     . have := ha1 x hx; omega
     . exact e
   . have hd : d ∈ b := by
      rcases List.mem_cons.1 (h d (by simp)) with e' | e'
      . exact absurd e' e
      . exact e'
     have hcd := hb1 d hd
     refine List.Sublist.cons _ (a8r b (d :: a) ha hb2 fun x hx => ?_)
     rcases List.mem_cons.1 (h x hx) with e' | e'
     . rcases List.mem_cons.1 hx with e2 | e2
       . exact absurd (e2.symm.trans e') e
       . have := ha1 x e2; omega
     . exact e'
theorem c0b : ∀ (a b : List (List Int)), a.length = b.length -> (∀ i (h : i < a.length) (h' : i < b.length), List.Sublist a[i] b[i]) -> lens a <= lens b /\ (lens a = lens b -> a = b)
 | [], [], _, _ => ⟨nr_ _, fun _ => rfl⟩
 | [], _ :: _, h, _ => by simp at h
 | _ :: _, [], h, _ => by simp at h
 | a :: az, b :: bs, hl, h => by
   have h0 : List.Sublist a b := h 0 (by simp) (by simp)
   have ih := c0b az bs (by simpa using hl) fun i h1 h2 => h (i + 1) (by simp; omega) (by simp; omega)
   have hle := h0.length_le
   have e1 : lens (a :: az) = a.length + lens az := by simp [lens]
   have e2 : lens (b :: bs) = b.length + lens bs := by simp [lens]
   refine ⟨by omega, fun e => ?_⟩
   have := ih.1
   rw [h0.eq_of_length (by omega), ih.2 (by omega)]
theorem c2k : ∀ (a b : List (List (List Int))), a.length = b.length -> (∀ i (h : i < a.length) (h' : i < b.length), lens a[i] <= lens b[i] /\ (lens a[i] = lens b[i] -> a[i] = b[i])) -> (a.map lens).sum <= (b.map lens).sum /\ ((a.map lens).sum = (b.map lens).sum -> a = b)
 | [], [], _, _ => ⟨nr_ _, fun _ => rfl⟩
 | [], _ :: _, h, _ => by simp at h
 | _ :: _, [], h, _ => by simp at h
 | a :: az, b :: bs, hl, h => by
   have h0 : lens a <= lens b /\ (lens a = lens b -> a = b) := h 0 (by simp) (by simp)
   have ih := c2k az bs (by simpa using hl) fun i h1 h2 => h (i + 1) (by simp; omega) (by simp; omega)
   have e1 : ((a :: az).map lens).sum = lens a + (az.map lens).sum := by simp
   have e2 : ((b :: bs).map lens).sum = lens b + (bs.map lens).sum := by simp
   have := ih.1
   have := h0.1
   refine ⟨by omega, fun e => ?_⟩
   rw [h0.2 (by omega), ih.2 (by omega)]
theorem e6c {x : Pts} {f a : Nat} (hf : f < x.regs.length) (ha : a < x.regs[f].length) : rg x f (a : Int) = x.regs[f][a] := by
 unfold rg
 rw [gD_, gD_, gE_ hf, gS_, tN_, gE_ ha, gS_]
theorem e8q {x : Pts} {o : Nat} (ho : o < x.cells.length) : cl x (o : Int) = x.cells[o] := by
 unfold cl
 rw [gD_, tN_, gE_ ho, gS_]
theorem e5t {p : Pg} {x y : Pts} (hx : Form p x) (hy : Form p y) (h : le x y) : a9n x <= a9n y /\ (¬ x = y -> a9n x < a9n y) := by
 have hr := c2k x.regs y.regs (by rw [h.rn]) fun f h1 h2 => by
  have hl : x.regs[f].length = y.regs[f].length := by
   have := h.fn f
   rw [gD_, gD_, gE_ h1, gE_ h2] at this
   exact this.symm
  exact c0b _ _ hl fun a g1 g2 => by
   have := h.rs f (a : Int)
   rw [e6c h1 g1, e6c h2 g2] at this
   exact a8r _ _ (hx.rs f h1 _ (gm_ g1)).1 (hy.rs f h2 _ (gm_ g2)).1 this
 have hc := c0b x.cells y.cells (by rw [h.cn]) fun o g1 g2 => by
  have := h.cs (o : Int)
  rw [e8q g1, e8q g2] at this
  exact a8r _ _ (hx.cs _ (gm_ g1)).1 (hy.cs _ (gm_ g2)).1 this
 have h1 := hr.1
 have h2 := hc.1
 refine ⟨by unfold a9n; omega, fun hne => ?_⟩
 refine Nat.lt_of_le_of_ne (by unfold a9n; omega) fun e => hne ?_
 unfold a9n at e
 exact Pts.ext' h.sites.symm (hr.2 (by omega)) (hc.2 (by omega))
structure Rnd (p : Pg) (x : Pts) : Prop where
 form : Form p x
 least : ∀ z, a5t p z -> z.sites = a0l p -> sub x z
theorem c1y {p : Pg} (hp : VOk p) {x : Pts} (hx : Form p x) : Form p (b5v p x) /\ le x (b5v p x) := (c7r hp p.funcs.length (nr_ _)).1 x hx
theorem Rnd.next {p : Pg} (hp : VOk p) {x : Pts} (h : Rnd p x) : Rnd p (b5v p x) :=
 ⟨(c1y hp h.form).1, fun z hz hs => c9y hp hz (h.least z hz hs)⟩
theorem Rnd.fin {p : Pg} (hp : a2c p = true) {x : Pts} (h : Rnd p x) (e : x = b5v p x) : Least p x := ⟨h.form, (d9r hp h.form).1 e.symm, h.least⟩
theorem Form.size {p : Pg} {x : Pts} (hp : VOk p) (h : Form p x) : a9n x <= (p.funcs.length * 64 + (a0l p).length) * (a0l p).length := c6e h.shp fun f hf => (hp.regs hf).r64
def muR (p : Pg) (x : Pts) : Nat := (p.funcs.length * 64 + (a0l p).length) * (a0l p).length - a9n x
theorem Rnd.mu {p : Pg} (hp : VOk p) {x : Pts} (h : Rnd p x) (e : ¬ x = b5v p x) : muR p (b5v p x) < muR p x := by
 have h1 := c1y hp h.form
 have := (e5t h.form h1.1 h1.2).2 e
 have := h1.1.size hp
 unfold muR; omega
def srt (l : List Int) : List Int := l.mergeSort fun a b => decide (a <= b)
theorem b6a {l : List Int} {o : Int} : o ∈ srt l ↔ o ∈ l := List.mem_mergeSort
theorem c3q : srt [] = [] := by simp [srt]
theorem a7h (l : List Int) : (srt l).length = l.length := List.length_mergeSort l
theorem e5r {l : List Int} (h : l.Nodup) : inc (srt l) := by
 have h1 : (srt l).Pairwise (fun a b => a <= b) := by
  have := List.pairwise_mergeSort (le := fun a b : Int => decide (a <= b)) (fun a b c h1 h2 => by simp only [dE_] at *; omega) (fun a b => by simp only [Bool.or_eq_true, dE_]; omega) l
  exact this.imp fun h => by simpa using h
 have h2 : (srt l).Nodup := (List.mergeSort_perm l _).nodup_iff.2 h
 have h3 := List.pairwise_and_iff.2 ⟨h1, h2⟩
 exact h3.imp fun ⟨h1, h2⟩ => by omega
def a7u (y : Pts) : Pts := ⟨y.sites, y.regs.map (·.map srt), y.cells.map srt⟩
theorem d2q (y : Pts) (f : Nat) (a : Int) : rg (a7u y) f a = srt (rg y f a) := by
 unfold rg a7u
 simp only [gD_, List.getElem?_map]
 cases y.regs[f]? with
 | none => simp [c3q]
 | some r =>
   simp only [Option.map_some, gS_, List.getElem?_map]
   cases r[a.toNat]? <;> simp [c3q]
theorem d6w (y : Pts) (o : Int) : cl (a7u y) o = srt (cl y o) := by
 unfold cl a7u
 simp only [gD_, List.getElem?_map]
 cases y.cells[o.toNat]? <;> simp [c3q]
theorem b9g (y : Pts) : sub (a7u y) y /\ sub y (a7u y) := by
 refine ⟨⟨rfl, fun t o ho => ?_⟩, ⟨rfl, fun t o ho => ?_⟩⟩
 . cases t with
   | r f a => have ho : o ∈ rg (a7u y) f (a : Int) := ho; rw [d2q] at ho; exact b6a.1 ho
   | c b => have ho : o ∈ cl (a7u y) (b : Int) := ho; rw [d6w] at ho; exact b6a.1 ho
 . cases t with
   | r f a => show o ∈ rg (a7u y) f (a : Int); rw [d2q]; exact b6a.2 ho
   | c b => show o ∈ cl (a7u y) (b : Int); rw [d6w]; exact b6a.2 ho
theorem c2w {p : Pg} (hp : VOk p) {x y : Pts} (h : sub x y) (h' : sub y x) : a5t p x ↔ a5t p y := by
 have hr : ∀ f a o, o ∈ rg x f a ↔ o ∈ rg y f a := fun f a o => ⟨a9m h f a o, a9m h' f a o⟩
 have hc : ∀ c o, o ∈ cl x c ↔ o ∈ cl y c := fun c o => ⟨b5l h c o, b5l h' c o⟩
 have hf : ∀ o k, k ∈ a5w p x o ↔ k ∈ a5w p y o := fun o k => ⟨b2n hp h k, b2n hp h' k⟩
 have key : ∀ f pc n, a3h p f pc n x ↔ a3h p f pc n y := fun f pc n => by
  unfold a3h
  simp only [subR, hr, hc, hf]
 unfold a5t
 simp only [key]
theorem okA.srt {n : Nat} {l : List Int} (h : okA n l) : okS n (srt l) := ⟨e5r h.1, fun x hx => h.2 x (b6a.1 hx)⟩
theorem d2d {p : Pg} {y : Pts} (h : Shp p y) : Form p (a7u y) := by
 refine ⟨h.sites, by simp [a7u, h.cn], by simp [a7u, h.rn], fun f h1 h2 => ?_, fun f h1 s hs => ?_, fun s hs => ?_⟩
 . have h3 : f < y.regs.length := by simpa [a7u] using h1
   have := h.fn f h3 h2
   simpa [a7u] using this
 . have h3 : f < y.regs.length := by simpa [a7u] using h1
   have hs : s ∈ y.regs[f].map Gv.srt := by simpa [a7u] using hs
   obtain ⟨t, ht, rfl⟩ := List.mem_map.1 hs
   exact (h.rs f h3 t ht).srt
 . obtain ⟨t, ht, rfl⟩ := List.mem_map.1 hs
   exact (h.cs t ht).srt
structure Crd (p : Pg) (y : Pts) : Prop where
 shp : Shp p y
 least : ∀ z, a5t p z -> z.sites = a0l p -> sub y z
theorem Crd.step {p : Pg} {y y' : Pts} {b' : Bool} (h : Crd p y) (hs : Shp p y') (ht : TR false (a5t p) (a5t p) y false y' b') : Crd p y' :=
 ⟨hs, fun z hz e => ht.least z hz (h.least z hz e)⟩
theorem Crd.fin {p : Pg} (hp : VOk p) {y y' : Pts} (h : Crd p y) (ht : TR false (a5t p) (a5t p) y false y' false) : y' = y /\ Least p (a7u y) := by
 obtain ⟨_, h1, h2⟩ := ht.good rfl
 refine ⟨h1, d2d h.shp, (c2w hp (b9g y).1 (b9g y).2).2 h2, fun z hz e => (b9g y).1.trans (h.least z hz e)⟩
theorem Crd.mu {p : Pg} (hp : VOk p) {y y' : Pts} (hs : Shp p y') (ht : TR false (a5t p) (a5t p) y false y' true) : muR p y' < muR p y := by
 rcases ht.prog rfl with ⟨_, h⟩ | ⟨h, _⟩
 . cases h
 . have := c6e hs fun f hf => (hp.regs hf).r64
   unfold muR; omega
def mk1 (l : List Bool) (o : Int) : List Bool := l.set o.toNat true
def mkL (l : List Bool) (s : List Int) : List Bool := s.foldl mk1 l
def isM (l : List Bool) (o : Int) : Prop := 0 <= o /\ l[o.toNat]? = some true
theorem b3b (l : List Bool) (o : Int) : (mk1 l o).length = l.length := by simp [mk1]
theorem a9v : ∀ (s : List Int) (l : List Bool), (mkL l s).length = l.length
 | [], _ => rfl
 | o :: s, l => by
   show (mkL (mk1 l o) s).length = _
   rw [a9v s, b3b]
theorem b8k (l : List Bool) (a b : List Int) : mkL l (a ++ b) = mkL (mkL l a) b := by simp [mkL, List.foldl_append]
theorem c0f {l : List Bool} {o v : Int} (h0 : 0 <= o) (h1 : o < (l.length : Int)) : isM (mk1 l o) v ↔ isM l v \/ v = o := by
 unfold isM mk1
 rw [List.getElem?_set]
 by_cases e : o.toNat = v.toNat
 . rw [if_pos e, if_pos (by omega)]
   constructor
   . rintro ⟨h, _⟩; right; omega
   . rintro (h | h)
     . exact ⟨h.1, rfl⟩
     . exact ⟨by omega, rfl⟩
 . rw [if_neg e]
   constructor
   . exact .inl
   . rintro (h | h)
     . exact h
     . subst h; exact absurd rfl e
theorem isM_mkL {v : Int} : ∀ (s : List Int) (l : List Bool), (∀ o ∈ s, 0 <= o /\ o < (l.length : Int)) -> (isM (mkL l s) v ↔ isM l v \/ v ∈ s)
 | [], l, _ => by simp [mkL]
 | o :: s, l, h => by
   have h1 := h o (by simp)
   have ih := isM_mkL (v := v) s (mk1 l o) fun a ha => by rw [b3b]; exact h a (by simp [ha])
   show isM (mkL (mk1 l o) s) v ↔ _
   rw [ih, c0f h1.1 h1.2, List.mem_cons, or_assoc]
theorem c2m {l : List Bool} {o : Int} (h : isM l o) : o < (l.length : Int) := by
 have := (List.getElem?_eq_some_iff.1 h.2).1
 have := h.1
 omega
theorem b8n {l : List Bool} {o : Nat} (h : o < l.length) : isM l (o : Int) ↔ l[o] = true := by
 unfold isM
 rw [tN_, gE_ h]
 simp
theorem c8t {a b : List Bool} (hl : a.length = b.length) (h : ∀ v, isM a v ↔ isM b v) : a = b := by
 refine List.ext_getElem hl fun i h1 h2 => ?_
 have := h (i : Int)
 rw [b8n h1, b8n h2] at this
 exact Bool.eq_iff_iff.2 this
def rtK (x : Pts) (f : Nat) (n : Ins) (k : Nat) : List Int := (List.range k).flatMap fun (i : Nat) => rg x f (n.c + i)
def rtI (p : Pg) (x : Pts) (f : Nat) (n : Ins) : List Int := if n.op = 31 then rtK x f n (a5v p.funcs n.b).toNat else if n.op = 32 then rg x f n.a else []
def rtQ (p : Pg) (x : Pts) (f : Nat) (code : List Ins) (j : Nat) : List Int := (code.take j).flatMap (rtI p x f)
def rtP (p : Pg) (x : Pts) : Nat -> List Int
 | 0 => [0]
 | i + 1 => rtP p x i ++ (match p.funcs[i]? with | some fn => rtQ p x i fn.code fn.code.length | none => [])
def rtA (p : Pg) (x : Pts) : List Int := rtP p x p.funcs.length
theorem f6n {p : Pg} {x : Pts} (hx : Form p x) {f : Nat} {n : Ins} {k : Nat} : ∀ o ∈ rtK x f n k, 0 <= o /\ o < ((a0l p).length : Int) := fun o ho => by
 obtain ⟨i, _, h⟩ := List.mem_flatMap.1 ho
 exact hx.regB f _ o h
theorem f6o {p : Pg} {x : Pts} (hx : Form p x) {f : Nat} {n : Ins} : ∀ o ∈ rtI p x f n, 0 <= o /\ o < ((a0l p).length : Int) := fun o ho => by
 unfold rtI at ho
 split at ho
 . exact f6n hx o ho
 . split at ho
   . exact hx.regB f _ o ho
   . cases ho
theorem f6m {p : Pg} {x : Pts} (hx : Form p x) {f : Nat} {code : List Ins} {j : Nat} : ∀ o ∈ rtQ p x f code j, 0 <= o /\ o < ((a0l p).length : Int) := fun o ho => by
 obtain ⟨n, _, h⟩ := List.mem_flatMap.1 ho
 exact f6o hx o h
theorem e5z {p : Pg} {x : Pts} (hx : Form p x) : ∀ i, ∀ o ∈ rtP p x i, 0 <= o /\ o < ((a0l p).length : Int)
 | 0, o, ho => by
   have := a9o p
   rw [rtP, List.mem_singleton] at ho; subst ho; omega
 | i + 1, o, ho => by
   rw [rtP, List.mem_append] at ho
   rcases ho with ho | ho
   . exact e5z hx i o ho
   . cases h : p.funcs[i]? with
     | none => rw [h] at ho; cases ho
     | some fn => rw [h] at ho; exact f6m hx o ho
theorem d0t (p : Pg) (x : Pts) : ∀ i, (0 : Int) ∈ rtP p x i
 | 0 => by simp [rtP]
 | i + 1 => by rw [rtP, List.mem_append]; exact .inl (d0t p x i)
theorem f7f {n : Nat} {l : List Int} (h : okS n l) : l.length <= n := e7q h.1 h.2
inductive Rch (p : Pg) (x : Pts) : Int -> Prop
 | root {o : Int} : o ∈ rtA p x -> Rch p x o
 | cell {o v : Int} : Rch p x o -> v ∈ cl x o -> Rch p x v
theorem Rch.bd {p : Pg} {x : Pts} (hx : Form p x) {o : Int} (h : Rch p x o) : 0 <= o /\ o < ((a0l p).length : Int) := by
 induction h with
 | root h => exact e5z hx _ _ h
 | cell _ h => exact hx.cellB _ _ h
open Classical in
noncomputable def rchL (p : Pg) (x : Pts) : List Bool := (List.range (a0l p).length).map fun (o : Nat) => decide (Rch p x (o : Int))
theorem c6n (p : Pg) (x : Pts) : (rchL p x).length = (a0l p).length := by simp [rchL]
theorem e0k {p : Pg} {x : Pts} (hx : Form p x) {o : Int} : isM (rchL p x) o ↔ Rch p x o := by
 constructor
 . intro h
   have h1 := c2m h
   rw [c6n] at h1
   have h2 : o.toNat < (a0l p).length := by have := h.1; omega
   have h3 := h.2
   unfold rchL at h3
   rw [List.getElem?_map, List.getElem?_range h2] at h3
   have e : ((o.toNat : Nat) : Int) = o := by have := h.1; omega
   simp only [Option.map_some, e, sE_, dE_] at h3
   exact h3
 . intro h
   obtain ⟨h0, h1⟩ := h.bd hx
   have h2 : o.toNat < (a0l p).length := by omega
   have e : ((o.toNat : Nat) : Int) = o := by omega
   refine ⟨h0, ?_⟩
   unfold rchL
   rw [List.getElem?_map, List.getElem?_range h2]
   simp [e, h]
theorem b1j (n : Nat) (o : Int) : ¬ isM (List.replicate n false) o := fun h => by
 have := h.2
 rw [List.getElem?_replicate] at this
 split at this <;> simp at this
def wt (x : Pts) (l : List Bool) : Nat := ((List.range l.length).map fun (o : Nat) => if l[o]? = some true then 0 else (cl x (o : Int)).length + 1).sum
theorem d1y : ∀ (n : Nat) (f g : Nat -> Nat) (i : Nat), i < n -> (∀ j, j ≠ i -> g j = f j) -> ((List.range n).map g).sum + f i = ((List.range n).map f).sum + g i
 | 0, _, _, _, h, _ => by omega
 | n + 1, f, g, i, h, he => by
   rw [List.range_succ, List.map_append, List.map_append, List.sum_append, List.sum_append]
   simp only [List.map_cons, List.map_nil, List.sum_cons, List.sum_nil, Nat.add_zero]
   by_cases e : i = n
   . subst e
     have : (List.range i).map g = (List.range i).map f := by
      refine List.map_congr_left fun j hj => he j ?_
      rw [List.mem_range] at hj; omega
     rw [this]; omega
   . have ih := d1y n f g i (by omega) he
     have := he n (by omega)
     omega
def stkK (p : Pg) (x : Pts) : Nat := (rtA p x).length + wt x (List.replicate (a0l p).length false)
structure Dfs (p : Pg) (x : Pts) (l : List Bool) (sk : List Int) : Prop where
 len : l.length = (a0l p).length
 st : ∀ o ∈ sk, Rch p x o
 mkd : ∀ o, isM l o -> Rch p x o
 rt : ∀ o ∈ rtA p x, isM l o \/ o ∈ sk
 cs : ∀ o, isM l o -> ∀ v ∈ cl x o, isM l v \/ v ∈ sk
 bd : sk.length + wt x l <= stkK p x
theorem Dfs.init (p : Pg) (x : Pts) : Dfs p x (List.replicate (a0l p).length false) (rtA p x) :=
 ⟨by simp, fun _ h => .root h, fun o h => absurd h (b1j _ o), fun _ h => .inr h, fun o h => absurd h (b1j _ o), nr_ _⟩
theorem c2x {p : Pg} {x : Pts} (hx : Form p x) {l : List Bool} (hl : l.length = (a0l p).length) (hm : ∀ o, isM l o -> Rch p x o) (hr : ∀ o ∈ rtA p x, isM l o) (hc : ∀ o, isM l o -> ∀ v ∈ cl x o, isM l v) : l = rchL p x := by
 refine c8t (by rw [hl, c6n]) fun v => ?_
 rw [e0k hx]
 refine ⟨hm v, fun h => ?_⟩
 induction h with
 | root h => exact hr _ h
 | cell _ h ih => exact hc _ ih _ h
theorem Dfs.fin {p : Pg} {x : Pts} (hx : Form p x) {l : List Bool} (h : Dfs p x l []) : l = rchL p x :=
 c2x hx h.len h.mkd (fun o ho => (h.rt o ho).resolve_right (by simp)) fun o ho v hv => (h.cs o ho v hv).resolve_right (by simp)
def rdS (x : Pts) (l : List Bool) (k : Nat) : List Bool := (List.range k).foldl (fun l (o : Nat) => if l[o]? = some true then mkL l (cl x (o : Int)) else l) l
theorem d2w (x : Pts) (l : List Bool) (k : Nat) : rdS x l (k + 1) = if (rdS x l k)[k]? = some true then mkL (rdS x l k) (cl x (k : Int)) else rdS x l k := by
 unfold rdS
 rw [List.range_succ, List.foldl_append]
 rfl
theorem b1k (x : Pts) (l : List Bool) : ∀ k, (rdS x l k).length = l.length
 | 0 => rfl
 | k + 1 => by
   rw [d2w]
   split
   . rw [a9v]; exact b1k x l k
   . exact b1k x l k
theorem f1m {p : Pg} {x : Pts} (hx : Form p x) {l : List Bool} (hl : l.length = (a0l p).length) {v : Int} (k : Nat) (h : isM (rdS x l k) v) : isM (rdS x l (k + 1)) v := by
 rw [d2w]
 split
 . exact (isM_mkL _ _ fun o ho => by rw [b1k, hl]; exact hx.cellB _ o ho).2 (.inl h)
 . exact h
theorem b4p {p : Pg} {x : Pts} (hx : Form p x) {l : List Bool} (hl : l.length = (a0l p).length) {v : Int} (j : Nat) : ∀ k, j <= k -> isM (rdS x l j) v -> isM (rdS x l k) v
 | 0, hk, h => by rw [Nat.le_zero.1 hk] at h; exact h
 | k + 1, hk, h => by
   by_cases e : j = k + 1
   . rw [<- e]; exact h
   . exact f1m hx hl k (b4p hx hl j k (by omega) h)
theorem f1n {p : Pg} {x : Pts} (hx : Form p x) {l : List Bool} (hl : l.length = (a0l p).length) (hm : ∀ o, isM l o -> Rch p x o) : ∀ k v, isM (rdS x l k) v -> Rch p x v
 | 0, v, h => hm v h
 | k + 1, v, h => by
   have ih := f1n hx hl hm k
   rw [d2w] at h
   split at h
   . rename_i hk
     rcases (isM_mkL _ _ fun o ho => by rw [b1k, hl]; exact hx.cellB _ o ho).1 h with h | h
     . exact ih v h
     . exact .cell (ih (k : Int) ⟨by omega, by simpa using hk⟩) h
   . exact ih v h
def Cls (x : Pts) (l : List Bool) : Prop := ∀ o, isM l o -> ∀ v ∈ cl x o, isM l v
theorem d2x {p : Pg} {x : Pts} (hx : Form p x) {l : List Bool} (hl : l.length = (a0l p).length) (h : Cls x l) : ∀ k, rdS x l k = l
 | 0 => rfl
 | k + 1 => by
   rw [d2w, d2x hx hl h k]
   split
   . rename_i hk
     refine c8t (a9v _ _) fun v => ?_
     rw [isM_mkL _ _ fun o ho => by rw [hl]; exact hx.cellB _ o ho]
     exact ⟨fun hv => by
      rcases hv with hv | hv
      . exact hv
      . exact h (k : Int) ⟨by omega, by simpa using hk⟩ v hv, .inl⟩
   . rfl
theorem e8o {p : Pg} {x : Pts} (hx : Form p x) {l : List Bool} (hl : l.length = (a0l p).length) (h : rdS x l l.length = l) : Cls x l := fun o ho v hv => by
 have h1 := c2m ho
 have e : ((o.toNat : Nat) : Int) = o := by have := ho.1; omega
 have h2 : isM (rdS x l o.toNat) o := b4p hx hl 0 o.toNat (by omega) ho
 have h3 : isM (rdS x l (o.toNat + 1)) v := by
  rw [d2w, if_pos h2.2, e]
  exact (isM_mkL _ _ fun a ha => by rw [b1k, hl]; exact hx.cellB _ a ha).2 (.inr hv)
 have h4 := b4p hx hl (o.toNat + 1) l.length (by have := ho.1; omega) h3
 rw [h] at h4
 exact h4
theorem d6s : ∀ (a b : List Bool), a.length = b.length -> (∀ i (h : i < a.length) (h' : i < b.length), a[i] = true -> b[i] = true) -> a.count true <= b.count true /\ (a.count true = b.count true -> a = b)
 | [], [], _, _ => ⟨nr_ _, fun _ => rfl⟩
 | [], _ :: _, h, _ => by simp at h
 | _ :: _, [], h, _ => by simp at h
 | a :: az, b :: bs, hl, h => by
   have h0 : a = true -> b = true := h 0 (by simp) (by simp)
   have ih := d6s az bs (by simpa using hl) fun i h1 h2 => h (i + 1) (by simp; omega) (by simp; omega)
   have h1 := ih.1
   rw [List.count_cons, List.count_cons]
   cases a <;> cases b
   . simp
     exact ⟨h1, fun e => ih.2 e⟩
   . simp
     exact ⟨by omega, fun e => by omega⟩
   . exact absurd (h0 rfl) (by simp)
   . simp only [beq_self_eq_true, if_true]
     exact ⟨by omega, fun e => by rw [ih.2 (by omega)]⟩
structure Rds (p : Pg) (x : Pts) (l : List Bool) (r : Nat) : Prop where
 len : l.length = (a0l p).length
 mkd : ∀ o, isM l o -> Rch p x o
 rt : ∀ o ∈ rtA p x, isM l o
 go : Cls x l \/ r + 1 <= l.count true
def l0R (p : Pg) (x : Pts) : List Bool := mkL (List.replicate (a0l p).length false) (rtA p x)
theorem Rds.init {p : Pg} {x : Pts} (hx : Form p x) : Rds p x (l0R p x) 0 := by
 have hi : ∀ v, isM (l0R p x) v ↔ v ∈ rtA p x := fun v => by
  unfold l0R
  rw [isM_mkL _ _ fun o ho => by rw [List.length_replicate]; exact e5z hx _ o ho]
  exact ⟨fun h => h.resolve_left (b1j _ v), .inr⟩
 refine ⟨by rw [l0R, a9v, List.length_replicate], fun o h => .root ((hi o).1 h), fun o h => (hi o).2 h, .inr ?_⟩
 have h0 := ((hi 0).2 (d0t p x _)).2
 exact List.count_pos_iff.2 (List.mem_of_getElem? h0)
theorem Rds.next {p : Pg} {x : Pts} (hx : Form p x) {l : List Bool} {r : Nat} (h : Rds p x l r) : Rds p x (rdS x l l.length) (r + 1) := by
 have hup : ∀ v, isM l v -> isM (rdS x l l.length) v := fun v hv => b4p hx h.len 0 l.length (by omega) hv
 refine ⟨by rw [b1k]; exact h.len, f1n hx h.len h.mkd _, fun o ho => hup o (h.rt o ho), ?_⟩
 rcases h.go with hc | hc
 . rw [d2x hx h.len hc]; exact .inl hc
 . have hs := d6s l (rdS x l l.length) (b1k x l l.length).symm fun i h1 h2 hi => (b8n h2).1 (hup _ ((b8n h1).2 hi))
   by_cases e : l.count true = (rdS x l l.length).count true
   . have e2 := hs.2 e
     rw [<- e2]
     exact .inl (e8o hx h.len e2.symm)
   . exact .inr (by omega)
theorem Rds.fin {p : Pg} {x : Pts} (hx : Form p x) {l : List Bool} (h : Rds p x l (a0l p).length) : l = rchL p x := by
 refine c2x hx h.len h.mkd h.rt ?_
 rcases h.go with hc | hc
 . exact hc
 . have := List.count_le_length (a := true) (l := l)
   rw [h.len] at this
   omega
theorem c6i {p : Pg} {x z : Pts} (h : sub x z) : ∀ i, ∀ o ∈ rtP p x i, o ∈ rtP p z i
 | 0, o, ho => ho
 | i + 1, o, ho => by
   rw [rtP, List.mem_append] at ho ⊢
   rcases ho with ho | ho
   . exact .inl (c6i h i o ho)
   . right
     cases hq : p.funcs[i]? with
     | none => rw [hq] at ho; exact ho
     | some fn =>
       rw [hq] at ho
       obtain ⟨n, hn, h2⟩ := List.mem_flatMap.1 ho
       refine List.mem_flatMap.2 ⟨n, hn, ?_⟩
       unfold rtI at h2 ⊢
       split at h2
       . rename_i e
         rw [if_pos e]
         obtain ⟨k, hk, h3⟩ := List.mem_flatMap.1 h2
         exact List.mem_flatMap.2 ⟨k, hk, a9m h i _ o h3⟩
       . rename_i e
         rw [if_neg e]
         split at h2
         . rename_i e2
           rw [if_pos e2]; exact a9m h i _ o h2
         . cases h2
theorem Rch.mono {p : Pg} {x z : Pts} (h : sub x z) {o : Int} (hr : Rch p x o) : Rch p z o := by
 induction hr with
 | root hr => exact .root (c6i h _ _ hr)
 | cell _ hv ih => exact .cell ih (b5l h _ _ hv)
def p1 : Pg := ⟨[⟨⟨⟨[109, 97, 105, 110]⟩⟩, 0, 2, [⟨21, 0, 0, 0, 0⟩, ⟨21, 1, 0, 0, 0⟩, ⟨31, 0, 1, 0, 0⟩, ⟨30, -1, 0, 0, 0⟩]⟩, ⟨⟨⟨[102]⟩⟩, 1, 1, [⟨30, -1, 0, 0, 0⟩]⟩], [], [[0]], 0⟩
def x1 : Pts := ⟨[(0, 0), (0, 0), (0, 1)], [[[1], [2]], [[1]]], [[], [], []]⟩
def eAtF : List Ins -> Int -> Nat -> Int
 | _, e, 0 => e
 | [], e, _ + 1 => e
 | x :: r, e, i + 1 => eAtF r (if x.op = 50 then x.b else if 0 < e then e - 1 else e) i
theorem e3w : ∀ (l : List Ins) (e : Int) (i : Nat) (h : i < l.length), eAtF l e (i + 1) = if l[i].op = 50 then l[i].b else if 0 < eAtF l e i then eAtF l e i - 1 else eAtF l e i
 | [], _, _, h => by cases h
 | x :: r, e, 0, _ => by cases r <;> rfl
 | x :: r, e, i + 1, h => by
   show eAtF r _ (i + 1) = _
   rw [e3w r _ i (by simpa using h)]
   rfl
theorem d3x {p : Pg} {f : FnD} : ∀ (l : List Ins) (e : Int), 0 <= e -> e <= 8 -> b1o p f l e = true -> ∀ i (h : i < l.length), a8h p f l[i] = true /\ (0 < eAtF l e i ↔ l[i].op = 51) /\ 0 <= eAtF l e i /\ eAtF l e i <= 8
 | [], _, _, _, _, _, h => by cases h
 | x :: r, e, h0, h8, hl, i, h => by
   simp only [b1o] at hl
   split at hl
   case isFalse => cases hl
   rename_i he
   simp only [bA_] at hl
   cases i with
   | zero => exact ⟨hl.1, by simpa [eAtF] using he, h0, h8⟩
   | succ i =>
     have hx := e0m hl.1
     have hb : x.op = 50 -> 0 <= x.b /\ x.b <= 8 := fun e5 => by
      have := hx.b
      rw [e5] at this
      simpa [opR, rR] using this
     have e1 : (if x.op = 50 then x.b else if 0 < e then W (e - 1) else e) = (if x.op = 50 then x.b else if 0 < e then e - 1 else e) := by
      rw [W_id (by omega) (by omega)]
     rw [e1] at hl
     refine d3x r _ ?_ ?_ hl.2 i (by simpa using h)
     . split
       . rename_i e5; exact (hb e5).1
       . split <;> omega
     . split
       . rename_i e5; exact (hb e5).2
       . split <;> omega
structure CodeOk (c : List Ins) : Prop where
 ne : 0 < c.length
 n1000 : c.length <= 1000
 h0 : ∀ h : 0 < c.length, c[0].op ≠ 51
 la : ∀ i (h : i < c.length), i + 1 = c.length -> c[i].op = 30 \/ c[i].op = 16
 fall : ∀ i (h : i + 1 < c.length), c[i].op ≠ 50 -> c[i].op ≠ 51 -> c[i + 1].op ≠ 51
 sel : ∀ i (h : i < c.length), c[i].op = 50 -> (0 <= c[i].b /\ c[i].b <= 8) /\ (∀ k : Nat, (k : Int) < c[i].b -> ∃ h : i + 1 + k < c.length, c[i + 1 + k].op = 51) /\ ∃ h : i + 1 + c[i].b.toNat < c.length, c[i + 1 + c[i].b.toNat].op ≠ 51
 cas : ∀ i (h : i < c.length), c[i].op = 51 -> ∃ j, ∃ hj : j < i, c[j].op = 50 /\ (i : Int) <= j + c[j].b /\ ∀ k (hk : k < c.length), j < k -> k <= i -> c[k].op = 51
 tgt : ∀ i (h : i < c.length), c[i].op = 16 \/ c[i].op = 17 \/ c[i].op = 45 -> 0 <= c[i].c /\ ∃ h : c[i].c.toNat < c.length, c[c[i].c.toNat].op ≠ 51
theorem f4k {p : Pg} (hv : a2c p = true) {f : FnD} (hf : f ∈ p.funcs) : CodeOk f.code := by
 have hp := vOk hv
 obtain ⟨h1, h2, h3, h4⟩ := hp.regs hf
 have hh := hp.head f hf
 have hR : b1o p f f.code 0 = true := by
  simp only [a2c, bA_] at hv
  have := List.all_eq_true.1 hv.2.2.1 f hf
  simp only [fnR, bA_] at this
  exact this.2
 have hne : 0 < f.code.length := by
  simp only [a9f, bA_] at hh
  have := hh.1.1.2
  simp at this
  exact List.length_pos_iff.2 this
 have hla : ∀ i (h : i < f.code.length), i + 1 = f.code.length -> f.code[i].op = 30 \/ f.code[i].op = 16 := fun i h e => by
  simp only [a9f, bA_, a8z, Bool.or_eq_true, dE_] at hh
  have e1 : ((f.code.length : Int) - 1).toNat = i := by omega
  have := hh.2
  rw [b0j _ _ (by omega)] at this
  simp only [e1] at this
  exact this
 have L := d3x f.code 0 (by omega) (by omega) hR
 have S := e3w f.code 0
 generalize hE : eAtF f.code 0 = E at L S
 have hE0 : E 0 = 0 := by rw [<- hE]; cases f.code <;> rfl
 have hsel : ∀ i (h : i < f.code.length), f.code[i].op = 50 -> ∀ k : Nat, (k : Int) <= f.code[i].b -> ∃ h : i + 1 + k < f.code.length, E (i + 1 + k) = f.code[i].b - k := fun i h e k => by
  induction k with
  | zero =>
    intro _
    have h1 : i + 1 < f.code.length := by
     rcases Nat.lt_or_ge (i + 1) f.code.length with h1 | h1
     . exact h1
     . have := hla i h (by omega); omega
    refine ⟨h1, ?_⟩
    have := S i h
    rw [if_pos e] at this
    simpa using this
  | succ k ih =>
    intro hk
    obtain ⟨h1, h2⟩ := ih (by omega)
    have h5 := (L _ h1).2.1.1 (by omega)
    have h3 : i + 1 + k + 1 < f.code.length := by
     rcases Nat.lt_or_ge (i + 1 + k + 1) f.code.length with h3 | h3
     . exact h3
     . have := hla _ h1 (by omega); omega
    refine ⟨h3, ?_⟩
    have := S _ h1
    rw [if_neg (by omega), if_pos (by omega)] at this
    show E (i + 1 + k + 1) = _
    rw [this, h2]; omega
 have hb : ∀ i (h : i < f.code.length), f.code[i].op = 50 -> 0 <= f.code[i].b /\ f.code[i].b <= 8 := fun i h e => by
  have := (e0m (L i h).1).b
  rw [e] at this
  simpa [opR, rR] using this
 refine ⟨hne, h4, fun h => ?_, hla, fun i h n50 n51 => ?_, fun i h e => ⟨hb i h e, fun k hk => ?_, ?_⟩, fun i h e => ?_, fun i h e => ?_⟩
 . intro e
   have := (L 0 h).2.1.2 e
   omega
 . intro e
   have h1 := (L _ h).2.1.2 e
   have h2 := S i (by omega)
   have h3 := mt (L i (by omega)).2.1.1 n51
   rw [if_neg n50, if_neg h3] at h2
   omega
 . obtain ⟨h1, h2⟩ := hsel i h e k (by omega)
   exact ⟨h1, (L _ h1).2.1.1 (by omega)⟩
 . have := hb i h e
   obtain ⟨h1, h2⟩ := hsel i h e f.code[i].b.toNat (by omega)
   refine ⟨h1, fun e2 => ?_⟩
   have := (L _ h1).2.1.2 e2
   omega
 . induction i with
   | zero => have := (L 0 h).2.1.2 e; omega
   | succ i ih =>
     have h1 := (L _ h).2.1.2 e
     have h2 := S i (by omega)
     by_cases e5 : f.code[i].op = 50
     . rw [if_pos e5] at h2
       refine ⟨i, by omega, e5, by omega, fun k hk a b => ?_⟩
       have : k = i + 1 := by omega
       subst this; exact e
     . rw [if_neg e5] at h2
       have h3 : 0 < E i := by split at h2 <;> omega
       rw [if_pos h3] at h2
       obtain ⟨j, hj, g1, g2, g3⟩ := ih (by omega) ((L i (by omega)).2.1.1 h3)
       obtain ⟨g4, g5⟩ := hsel j (by omega) g1 (i - j - 1) (by omega)
       have g6 : j + 1 + (i - j - 1) = i := by omega
       rw [g6] at g5
       refine ⟨j, by omega, g1, by omega, fun k hk a b => ?_⟩
       by_cases ek : k = i + 1
       . subst ek; exact e
       . exact g3 k hk a (by omega)
 . have := (e0m (L i h).1).c
   have hr : (rR f.code[i].op).2.2 = 106 := by rcases e with e | e | e <;> rw [e] <;> rfl
   rw [hr] at this
   simp only [opR] at this
   simp at this
   have h1 : f.code[i].c.toNat < f.code.length := by omega
   rw [b0j _ _ h1] at this
   exact ⟨by omega, h1, by simpa using this.2⟩
def nx (c : List Ins) (i : Nat) : List Int := match c[i]? with
 | none => []
 | some n => if n.op = 30 \/ n.op = 51 then [] else if n.op = 16 then [n.c] else if n.op = 17 \/ n.op = 45 then a1x [(i : Int) + 1] n.c else if n.op = 50 then [(i : Int) + 1 + n.b] else [(i : Int) + 1]
theorem c3y {c : List Ins} {i : Nat} (h : i < c.length) : nx c i = if c[i].op = 30 \/ c[i].op = 51 then [] else if c[i].op = 16 then [c[i].c] else if c[i].op = 17 \/ c[i].op = 45 then a1x [(i : Int) + 1] c[i].c else if c[i].op = 50 then [(i : Int) + 1 + c[i].b] else [(i : Int) + 1] := by
 unfold nx
 rw [gE_ h]
theorem c2g {a b v : Int} : v ∈ a1x [a] b ↔ v = a \/ v = b := by
 rw [b9y]; simp
theorem a7y {c : List Ins} (hc : CodeOk c) {i : Nat} {v : Int} (h : v ∈ nx c i) : 0 <= v /\ ∃ hv : v.toNat < c.length, c[v.toNat].op ≠ 51 := by
 unfold nx at h
 split at h
 . cases h
 rename_i n hn
 obtain ⟨hi, rfl⟩ := List.getElem?_eq_some_iff.1 hn
 have nxt : c[i].op ≠ 30 -> c[i].op ≠ 16 -> c[i].op ≠ 50 -> c[i].op ≠ 51 -> 0 <= (i : Int) + 1 /\ ∃ hv : ((i : Int) + 1).toNat < c.length, c[((i : Int) + 1).toNat].op ≠ 51 := fun n1 n2 n3 n4 => by
  have h1 : i + 1 < c.length := by
   rcases Nat.lt_or_ge (i + 1) c.length with h1 | h1
   . exact h1
   . have := hc.la i hi (by omega); omega
  refine ⟨by omega, by omega, ?_⟩
  have e : ((i : Int) + 1).toNat = i + 1 := by omega
  simp only [e]
  exact hc.fall i h1 n3 n4
 split at h
 . cases h
 split at h
 . rename_i e
   rw [List.mem_singleton] at h; subst h
   exact hc.tgt i hi (.inl e)
 split at h
 . rename_i e
   rcases c2g.1 h with h | h
   . subst h
     exact nxt (by omega) (by omega) (by omega) (by omega)
   . subst h
     exact hc.tgt i hi (by omega)
 split at h
 . rename_i e
   rw [List.mem_singleton] at h; subst h
   obtain ⟨h1, _, h2, h3⟩ := hc.sel i hi e
   have e2 : ((i : Int) + 1 + c[i].b).toNat = i + 1 + c[i].b.toNat := by omega
   refine ⟨by omega, by omega, ?_⟩
   simp only [e2]
   exact h3
 . rw [List.mem_singleton] at h; subst h
   exact nxt (by omega) (by omega) (by omega) (by omega)
inductive Rc (c : List Ins) : Nat -> Prop
 | zero : 0 < c.length -> Rc c 0
 | step {i : Nat} {v : Int} : Rc c i -> v ∈ nx c i -> Rc c v.toNat
theorem Rc.lt {c : List Ins} (hc : CodeOk c) {i : Nat} (h : Rc c i) : i < c.length := by
 cases h with
 | zero h => exact h
 | step _ h => exact (a7y hc h).2.1
theorem Rc.op {c : List Ins} (hc : CodeOk c) {i : Nat} (h : Rc c i) (hi : i < c.length) : c[i].op ≠ 51 := by
 cases h with
 | zero h => exact hc.h0 h
 | step _ h => exact (a7y hc h).2.2
def hd (c : List Ins) : Nat -> Nat
 | 0 => 0
 | i + 1 => if opAt c ((i + 1 : Nat) : Int) = 51 then hd c i else i + 1
theorem c0m (c : List Ins) : ∀ i, hd c i <= i
 | 0 => nr_ _
 | i + 1 => by
   unfold hd
   split
   . have := c0m c i; omega
   . exact nr_ _
theorem a6y {c : List Ins} {i : Nat} (h : i < c.length) (e : c[i].op ≠ 51) : hd c i = i := by
 cases i with
 | zero => rfl
 | succ i =>
   unfold hd
   rw [b0j _ _ (by omega), if_neg]
   simpa using e
theorem hd_s {c : List Ins} {i : Nat} (h : i + 1 < c.length) (e : c[i + 1].op = 51) : hd c (i + 1) = hd c i := by
 conv => lhs; unfold hd
 rw [b0j _ _ (by omega), if_pos]
 simpa using e
theorem d5a {c : List Ins} (hc : CodeOk c) : ∀ i (h : i < c.length) (h' : hd c i < c.length), c[hd c i].op ≠ 51
 | 0, h, _ => hc.h0 h
 | i + 1, h, h' => by
   by_cases e : c[i + 1].op = 51
   . have := d5a hc i (by omega) (by rw [<- hd_s h e]; exact h')
     simpa only [hd_s h e] using this
   . simpa only [a6y h e] using e
open Classical in
noncomputable def rcL (c : List Ins) : List Bool := (List.range c.length).map fun i => decide (Rc c i)
open Classical in
noncomputable def a4h (c : List Ins) : List Bool := (List.range c.length).map fun i => decide (Rc c (hd c i))
theorem a9u (c : List Ins) : (rcL c).length = c.length := by simp [rcL]
theorem a6i (c : List Ins) : (a4h c).length = c.length := by simp [a4h]
theorem d2y {c : List Ins} {i : Nat} (h : i < (rcL c).length) : (rcL c)[i] = true ↔ Rc c i := by simp [rcL]
theorem b5t {c : List Ins} {i : Nat} (h : i < (a4h c).length) : (a4h c)[i] = true ↔ Rc c (hd c i) := by simp [a4h]
theorem e7n {c : List Ins} (hc : CodeOk c) {o : Int} : isM (rcL c) o ↔ 0 <= o /\ Rc c o.toNat := by
 constructor
 . intro h
   have h1 := c2m h
   refine ⟨h.1, ?_⟩
   have h2 : o.toNat < (rcL c).length := by have := h.1; omega
   have e : ((o.toNat : Nat) : Int) = o := by have := h.1; omega
   rw [<- e, b8n h2] at h
   exact (d2y h2).1 h
 . rintro ⟨h0, h⟩
   have h2 : o.toNat < (rcL c).length := by rw [a9u]; exact h.lt hc
   have e : ((o.toNat : Nat) : Int) = o := by omega
   rw [<- e, b8n h2]
   exact (d2y h2).2 h
theorem f1q {c : List Ins} (hc : CodeOk c) {l : List Bool} (hl : l.length = c.length) (h0 : isM l 0) (hm : ∀ o, isM l o -> Rc c o.toNat) (hs : ∀ o, isM l o -> ∀ v ∈ nx c o.toNat, isM l v) : l = rcL c := by
 refine c8t (by rw [hl, a9u]) fun v => ?_
 rw [e7n hc]
 refine ⟨fun h => ⟨h.1, hm v h⟩, ?_⟩
 rintro ⟨h, hr⟩
 have key : ∀ i, Rc c i -> isM l (i : Int) := fun i hi => by
  induction hi with
  | zero => exact h0
  | @step i v _ hv ih =>
    have := hs _ ih v (by simpa using hv)
    have e : ((v.toNat : Nat) : Int) = v := by have := (a7y hc hv).1; omega
    rw [e]; exact this
 have := key _ hr
 have e : ((v.toNat : Nat) : Int) = v := by omega
 rwa [e] at this
def psh (s : List Bool × List Int) (v : Int) : List Bool × List Int := if s.1[v.toNat]? = some true then s else (mk1 s.1 v, s.2 ++ [v])
def pshs (l : List Bool) (st : List Int) (s : List Int) : List Bool × List Int := s.foldl psh (l, st)
theorem c6r (l : List Bool) (st : List Int) : pshs l st [] = (l, st) := rfl
theorem c1x (l : List Bool) (st s : List Int) (v : Int) : pshs l st (s ++ [v]) = psh (pshs l st s) v := by simp [pshs, List.foldl_append]
theorem d3g (l : List Bool) (st : List Int) {s : List Int} {k : Nat} (h : k < s.length) : pshs l st (s.take (k + 1)) = psh (pshs l st (s.take k)) s[k] := by
 rw [List.take_succ_eq_append_getElem h, c1x]
def wtV (s : List Bool × List Int) : Nat := 2 * s.1.count false + s.2.length
theorem d6x {l : List Bool} {v : Int} (h0 : 0 <= v) (h1 : v < (l.length : Int)) (h : ¬ l[v.toNat]? = some true) : (mk1 l v).count false + 1 = l.count false := by
 have h2 : v.toNat < l.length := by omega
 have h3 : l[v.toNat] = false := by
  rw [gE_ h2] at h
  simpa using h
 have : ∀ (l : List Bool) (i : Nat) (hi : i < l.length), l[i] = false -> (l.set i true).count false + 1 = l.count false := by
  intro l
  induction l with
  | nil => intro i hi; cases hi
  | cons b r ih =>
    intro i hi e
    cases i with
    | zero =>
      simp only [List.getElem_cons_zero] at e
      subst e
      rw [List.set_cons_zero, List.count_cons, List.count_cons]
      simp
    | succ i =>
      rw [List.set_cons_succ, List.count_cons, List.count_cons]
      have := ih i (by simpa using hi) (by simpa using e)
      omega
 exact this l _ h2 h3
structure Ps (l : List Bool) (st s : List Int) (r : List Bool × List Int) : Prop where
 len : r.1.length = l.length
 mem : ∀ v, isM r.1 v ↔ isM l v \/ v ∈ s
 stk : ∀ v, v ∈ r.2 ↔ v ∈ st \/ (v ∈ s /\ ¬ isM l v)
 wt : wtV r <= wtV (l, st)
theorem f1x (l : List Bool) (st : List Int) : ∀ (s : List Int), (∀ o ∈ s, 0 <= o /\ o < (l.length : Int)) -> Ps l st s (pshs l st s) := by
 intro s
 induction hn : s.length generalizing s with
 | zero =>
   intro _
   have : s = [] := List.length_eq_zero_iff.1 hn
   subst this
   exact ⟨rfl, by simp [c6r], by simp [c6r], nr_ _⟩
 | succ n ih =>
   intro hs
   obtain ⟨t, v, rfl⟩ : ∃ t v, s = t ++ [v] := ⟨s.dropLast, s.getLast (by intro e; subst e; cases hn), (List.dropLast_concat_getLast _).symm⟩
   have hI := ih t (by simpa using hn) fun o ho => hs o (by simp [ho])
   have hv := hs v (by simp)
   rw [c1x]
   unfold psh
   split
   . rename_i hm
     have hm2 : isM (pshs l st t).1 v := ⟨hv.1, hm⟩
     have h3 := (hI.mem v).1 hm2
     refine ⟨hI.len, fun w => ?_, fun w => ?_, hI.wt⟩
     . rw [hI.mem w, List.mem_append, List.mem_singleton]
       constructor
       . rintro (h | h)
         . exact .inl h
         . exact .inr (.inl h)
       . rintro (h | h | h)
         . exact .inl h
         . exact .inr h
         . subst h; exact h3
     . rw [hI.stk w, List.mem_append, List.mem_singleton]
       constructor
       . rintro (h | ⟨h, h'⟩)
         . exact .inl h
         . exact .inr ⟨.inl h, h'⟩
       . rintro (h | ⟨h | h, h'⟩)
         . exact .inl h
         . exact .inr ⟨h, h'⟩
         . subst h
           exact .inr ⟨h3.resolve_left h', h'⟩
   . rename_i hm
     have hb : v < ((pshs l st t).1.length : Int) := by rw [hI.len]; exact hv.2
     have hnm : ¬ isM (pshs l st t).1 v := fun h => hm h.2
     have hnl : ¬ isM l v := fun h => hnm ((hI.mem v).2 (.inl h))
     refine ⟨by rw [b3b, hI.len], fun w => ?_, fun w => ?_, ?_⟩
     . rw [c0f hv.1 hb, hI.mem w, List.mem_append, List.mem_singleton, or_assoc]
     . rw [List.mem_append, List.mem_singleton, hI.stk w, List.mem_append, List.mem_singleton]
       constructor
       . rintro ((h | ⟨h, h'⟩) | h)
         . exact .inl h
         . exact .inr ⟨.inl h, h'⟩
         . subst h; exact .inr ⟨.inr rfl, hnl⟩
       . rintro (h | ⟨h | h, h'⟩)
         . exact .inl (.inl h)
         . exact .inl (.inr ⟨h, h'⟩)
         . exact .inr h
     . have h1 := hI.wt
       have h2 := d6x hv.1 hb hm
       unfold wtV at h1 ⊢
       rw [List.length_append, List.length_singleton]
       simp only at h1 ⊢
       omega
structure Vst (c : List Ins) (l : List Bool) (st : List Int) : Prop where
 len : l.length = c.length
 stk : ∀ o ∈ st, isM l o
 mkd : ∀ o, isM l o -> Rc c o.toNat
 h0 : isM l 0
 cs : ∀ o, isM l o -> o ∈ st \/ ∀ v ∈ nx c o.toNat, isM l v
theorem Vst.init {c : List Ins} (hc : CodeOk c) : Vst c (mk1 (List.replicate c.length false) 0) [0] := by
 have hi : ∀ v, isM (mk1 (List.replicate c.length false) 0) v ↔ v = 0 := fun v => by
  rw [c0f (by omega) (by have := hc.ne; simp; omega)]
  exact ⟨fun h => h.resolve_left (b1j _ v), .inr⟩
 refine ⟨by rw [b3b, List.length_replicate], fun o ho => (hi o).2 (by simpa using ho), fun o ho => ?_, (hi 0).2 rfl, fun o ho => .inl ?_⟩
 . rw [(hi o).1 ho]; exact .zero hc.ne
 . rw [(hi o).1 ho]; simp
theorem Vst.pop {c : List Ins} (hc : CodeOk c) {l : List Bool} {st : List Int} {o : Int} (h : Vst c l (st ++ [o])) : Vst c (pshs l st (nx c o.toNat)).1 (pshs l st (nx c o.toNat)).2 /\ wtV (pshs l st (nx c o.toNat)) < wtV (l, st ++ [o]) := by
 have ho := h.stk o (by simp)
 have hb : ∀ v ∈ nx c o.toNat, 0 <= v /\ v < (l.length : Int) := fun v hv => by
  obtain ⟨h1, h2, _⟩ := a7y hc hv
  rw [h.len]; omega
 have P := f1x l st (nx c o.toNat) hb
 generalize pshs l st (nx c o.toNat) = r at P
 refine ⟨⟨by rw [P.len, h.len], fun v hv => ?_, fun v hv => ?_, (P.mem 0).2 (.inl h.h0), fun v hv => ?_⟩, ?_⟩
 . rcases (P.stk v).1 hv with hv | hv
   . exact (P.mem v).2 (.inl (h.stk v (by simp [hv])))
   . exact (P.mem v).2 (.inr hv.1)
 . rcases (P.mem v).1 hv with hv | hv
   . exact h.mkd v hv
   . exact .step (h.mkd o ho) hv
 . by_cases hl : isM l v
   . rcases h.cs v hl with h1 | h1
     . rw [List.mem_append, List.mem_singleton] at h1
       rcases h1 with h1 | h1
       . exact .inl ((P.stk v).2 (.inl h1))
       . subst h1
         exact .inr fun w hw => (P.mem w).2 (.inr hw)
     . exact .inr fun w hw => (P.mem w).2 (.inl (h1 w hw))
   . have := ((P.mem v).1 hv).resolve_left hl
     exact .inl ((P.stk v).2 (.inr ⟨this, hl⟩))
 . have := P.wt
   unfold wtV at this ⊢
   simp only [List.length_append, List.length_singleton] at this ⊢
   omega
theorem Vst.fin {c : List Ins} (hc : CodeOk c) {l : List Bool} (h : Vst c l []) : l = rcL c :=
 f1q hc h.len h.h0 h.mkd fun o ho => (h.cs o ho).resolve_left (by simp)
theorem b5w (c : List Ins) (i : Nat) : (nx c i).length <= 1000 := by
 unfold nx
 split
 . simp
 split
 . simp
 split
 . simp
 split
 . have := b4i [(i : Int) + 1] (by assumption : Ins).c; simp at this ⊢; omega
 split <;> simp
def rdN (c : List Ins) (l : List Bool) (k : Nat) : List Bool := (List.range k).foldl (fun l (o : Nat) => if l[o]? = some true then mkL l (nx c o) else l) l
theorem c9x (c : List Ins) (l : List Bool) (k : Nat) : rdN c l (k + 1) = if (rdN c l k)[k]? = some true then mkL (rdN c l k) (nx c k) else rdN c l k := by
 unfold rdN
 rw [List.range_succ, List.foldl_append]
 rfl
theorem b1l (c : List Ins) (l : List Bool) : ∀ k, (rdN c l k).length = l.length
 | 0 => rfl
 | k + 1 => by
   rw [c9x]
   split
   . rw [a9v]; exact b1l c l k
   . exact b1l c l k
def chg (l r : List Bool) (m : Bool) : Prop := (m = false -> r = l) /\ (m = true -> r.count false < l.count false) /\ r.count false <= l.count false
theorem f8y (l : List Bool) : chg l l false := ⟨fun _ => rfl, fun h => (by cases h), nr_ _⟩
theorem e8r {l r : List Bool} {m : Bool} (h : chg l r m) {v : Int} (h0 : 0 <= v) (h1 : v < (r.length : Int)) (hm : ¬ r[v.toNat]? = some true) : chg l (mk1 r v) true := by
 have := d6x h0 h1 hm
 have := h.2.2
 exact ⟨fun e => (by cases e), fun _ => by omega, by omega⟩
structure Swp (c : List Ins) (l : List Bool) (more : Bool) : Prop where
 len : l.length = c.length
 mkd : ∀ o, isM l o -> Rc c o.toNat
 h0 : isM l 0
 cs : more = false -> ∀ o, isM l o -> ∀ v ∈ nx c o.toNat, isM l v
def muS (l : List Bool) (more : Bool) : Nat := if more then l.count false + 1 else 0
theorem Swp.init {c : List Ins} (hc : CodeOk c) : Swp c (mk1 (List.replicate c.length false) 0) true :=
 ⟨(Vst.init hc).len, (Vst.init hc).mkd, (Vst.init hc).h0, fun h => (by cases h)⟩
theorem f1o {c : List Ins} (hc : CodeOk c) {l : List Bool} (hl : l.length = c.length) {v : Int} (k : Nat) (h : isM (rdN c l k) v) : isM (rdN c l (k + 1)) v := by
 rw [c9x]
 split
 . exact (isM_mkL _ _ fun o ho => by obtain ⟨h1, h2, _⟩ := a7y hc ho; rw [b1l, hl]; omega).2 (.inl h)
 . exact h
theorem b4q {c : List Ins} (hc : CodeOk c) {l : List Bool} (hl : l.length = c.length) {v : Int} (j : Nat) : ∀ k, j <= k -> isM (rdN c l j) v -> isM (rdN c l k) v
 | 0, hk, h => by rw [Nat.le_zero.1 hk] at h; exact h
 | k + 1, hk, h => by
   by_cases e : j = k + 1
   . rw [<- e]; exact h
   . exact f1o hc hl k (b4q hc hl j k (by omega) h)
theorem f1p {c : List Ins} (hc : CodeOk c) {l : List Bool} (hl : l.length = c.length) (hm : ∀ o, isM l o -> Rc c o.toNat) : ∀ k v, isM (rdN c l k) v -> Rc c v.toNat
 | 0, v, h => hm v h
 | k + 1, v, h => by
   have ih := f1p hc hl hm k
   rw [c9x] at h
   split at h
   . rename_i hk
     rcases (isM_mkL _ _ fun o ho => by obtain ⟨h1, h2, _⟩ := a7y hc ho; rw [b1l, hl]; omega).1 h with h | h
     . exact ih v h
     . have := ih (k : Int) ⟨by omega, by simpa using hk⟩
       rw [tN_] at this
       exact .step this h
   . exact ih v h
theorem Swp.next {c : List Ins} (hc : CodeOk c) {l : List Bool} {m0 m : Bool} (h : Swp c l m0) (hg : chg l (rdN c l c.length) m) : Swp c (rdN c l c.length) m /\ muS (rdN c l c.length) m < muS l true := by
 refine ⟨⟨by rw [b1l]; exact h.len, f1p hc h.len h.mkd _, b4q hc h.len 0 _ (by omega) h.h0, fun e o ho v hv => ?_⟩, ?_⟩
 . have e1 := hg.1 e
   rw [e1] at ho ⊢
   have h1 := c2m ho
   have e : ((o.toNat : Nat) : Int) = o := by have := ho.1; omega
   have h2 : isM (rdN c l o.toNat) o := b4q hc h.len 0 o.toNat (by omega) ho
   have h3 : isM (rdN c l (o.toNat + 1)) v := by
    rw [c9x, if_pos h2.2]
    exact (isM_mkL _ _ fun a ha => by obtain ⟨h1, h2, _⟩ := a7y hc ha; rw [b1l, h.len]; omega).2 (.inr hv)
   have h4 := b4q hc h.len (o.toNat + 1) c.length (by rw [h.len] at h1; omega) h3
   rw [e1] at h4
   exact h4
 . unfold muS
   cases m
   . simp
   . have := hg.2.1 rfl
     simp; omega
theorem Swp.fin {c : List Ins} (hc : CodeOk c) {l : List Bool} (h : Swp c l false) : l = rcL c := f1q hc h.len h.h0 h.mkd (h.cs rfl)
def ldI (c : List Ins) (i : Nat) : List Int := match c[i]? with
 | none => []
 | some n => if n.op = 16 \/ n.op = 17 \/ n.op = 45 then [n.c, (i : Int) + 1] else if n.op = 30 then [(i : Int) + 1] else []
def ldA (c : List Ins) (b : List Int) (k : Nat) : List Bool := mkL (mkL (List.replicate (c.length + 1) false) b) ((List.range k).flatMap (ldI c))
theorem b2k {c : List Ins} {i : Nat} (h : i < c.length) : ldI c i = if c[i].op = 16 \/ c[i].op = 17 \/ c[i].op = 45 then [c[i].c, (i : Int) + 1] else if c[i].op = 30 then [(i : Int) + 1] else [] := by
 unfold ldI
 rw [gE_ h]
theorem e7j (c : List Ins) (b : List Int) (k : Nat) : ldA c b (k + 1) = mkL (ldA c b k) (ldI c k) := by
 unfold ldA
 rw [List.range_succ, List.flatMap_append, b8k]
 simp
theorem f7r (c : List Ins) (b : List Int) : ldA c b 0 = mkL (List.replicate (c.length + 1) false) b := rfl
theorem c0d (c : List Ins) (b : List Int) (k : Nat) : (ldA c b k).length = c.length + 1 := by simp [ldA, a9v]
theorem d4f {c : List Ins} (hc : CodeOk c) {i : Nat} {v : Int} (h : v ∈ ldI c i) : 0 <= v /\ v < ((c.length + 1 : Nat) : Int) /\ (∀ hv : v.toNat < c.length, c[v.toNat].op ≠ 51) := by
 unfold ldI at h
 split at h
 . cases h
 rename_i n hn
 obtain ⟨hi, rfl⟩ := List.getElem?_eq_some_iff.1 hn
 have nxt : c[i].op ≠ 50 -> c[i].op ≠ 51 -> 0 <= (i : Int) + 1 /\ (i : Int) + 1 < ((c.length + 1 : Nat) : Int) /\ ∀ hv : ((i : Int) + 1).toNat < c.length, c[((i : Int) + 1).toNat].op ≠ 51 := fun h1 h2 => by
  refine ⟨by omega, by omega, fun hv => ?_⟩
  have e : ((i : Int) + 1).toNat = i + 1 := by omega
  simp only [e]
  exact hc.fall i (by omega) h1 h2
 split at h
 . rename_i e
   simp only [List.mem_cons, List.not_mem_nil, or_false] at h
   rcases h with h | h
   . subst h
     obtain ⟨h1, h2, h3⟩ := hc.tgt i hi e
     exact ⟨h1, by omega, fun _ => h3⟩
   . subst h; exact nxt (by omega) (by omega)
 split at h
 . rw [List.mem_singleton] at h
   subst h; exact nxt (by omega) (by omega)
 . cases h
def a3e (c : List Ins) : List Bool := ldA c [0] c.length
theorem a8f (c : List Ins) : (a3e c).length = c.length + 1 := c0d ..
theorem d4l {c : List Ins} (hc : CodeOk c) {b : List Int} (hb : ∀ o ∈ b, 0 <= o /\ o < ((c.length + 1 : Nat) : Int)) {k : Nat} {v : Int} : isM (ldA c b k) v ↔ v ∈ b \/ ∃ i, i < k /\ v ∈ ldI c i := by
 unfold ldA
 rw [isM_mkL _ _ fun o ho => ?_, isM_mkL _ _ fun o ho => ?_]
 . simp only [List.mem_flatMap, List.mem_range]
   exact ⟨fun h => h.elim (fun h => .inl (h.resolve_left (b1j _ v))) fun ⟨a, b, c⟩ => .inr ⟨a, b, c⟩, fun h => h.elim (fun h => .inl (.inr h)) .inr⟩
 . rw [List.length_replicate]; exact hb o ho
 . rw [a9v, List.length_replicate]
   obtain ⟨i, _, h⟩ := List.mem_flatMap.1 ho
   exact ⟨(d4f hc h).1, (d4f hc h).2.1⟩
theorem a5e {c : List Ins} (hc : CodeOk c) {v : Int} : isM (a3e c) v ↔ v = 0 \/ ∃ i, i < c.length /\ v ∈ ldI c i := by
 unfold a3e
 rw [d4l hc (fun o ho => by rw [List.mem_singleton] at ho; omega)]
 simp
theorem c0c {c : List Ins} (hc : CodeOk c) : isM (a3e c) (c.length : Int) := by
 have h := hc.ne
 have h1 := hc.la (c.length - 1) (by omega) (by omega)
 refine (a5e hc).2 (.inr ⟨c.length - 1, by omega, ?_⟩)
 have e : ((c.length - 1 : Nat) : Int) + 1 = (c.length : Int) := by omega
 rw [b2k (by omega), e]
 rcases h1 with h1 | h1
 . rw [if_neg (by omega), if_pos h1]; simp
 . rw [if_pos (.inl h1)]; simp
theorem e7i {c : List Ins} (hc : CodeOk c) : ldA c [0, (c.length : Int)] c.length = a3e c := by
 refine c8t (by rw [c0d, a8f]) fun v => ?_
 rw [d4l hc (fun o ho => by simp only [List.mem_cons, List.not_mem_nil, or_false] at ho; omega), a5e hc]
 simp only [List.mem_cons, List.not_mem_nil, or_false]
 constructor
 . rintro ((h | h) | h)
   . exact .inl h
   . subst h; exact (a5e hc).1 (c0c hc)
   . exact .inr h
 . rintro (h | h)
   . exact .inl (.inl h)
   . exact .inr h
theorem c4c {c : List Ins} (hc : CodeOk c) {i : Nat} (h : (a3e c)[i]? = some true) (hi : i < c.length) : c[i].op ≠ 51 := by
 have hm : isM (a3e c) (i : Int) := ⟨by omega, by simpa using h⟩
 rcases (a5e hc).1 hm with h1 | ⟨j, _, h1⟩
 . have : i = 0 := by omega
   subst this; exact hc.h0 hi
 . have := (d4f hc h1).2.2 (by simpa using hi)
   simpa using this
def stF (c : List Ins) : Nat -> Nat
 | 0 => 0
 | k + 1 => if (a3e c)[k + 1]? = some true then k + 1 else stF c k
def bkF (c : List Ins) : Nat -> List (Nat × Nat)
 | 0 => []
 | k + 1 => if (a3e c)[k + 1]? = some true then bkF c k ++ [(stF c k, k + 1)] else bkF c k
def nmF (c : List Ins) (k : Nat) : Nat := (bkF c k).length
def nmL (c : List Ins) (n k : Nat) : List Int := (List.range n).map fun j => if j < k then (nmF c j : Int) else 0
def bkR (c : List Ins) : Nat -> List (Nat × Nat)
 | 0 => []
 | k + 1 => bkF c k ++ [(stF c k, k + 1)]
theorem b3u (c : List Ins) : ∀ k, stF c k <= k
 | 0 => nr_ _
 | k + 1 => by
   unfold stF
   split
   . exact nr_ _
   . have := b3u c k; omega
theorem c1q {c : List Ins} {k : Nat} (h : (a3e c)[k + 1]? = some true) : stF c (k + 1) = k + 1 := by rw [stF, if_pos h]
theorem b9h {c : List Ins} {k : Nat} (h : ¬ (a3e c)[k + 1]? = some true) : stF c (k + 1) = stF c k := by rw [stF, if_neg h]
theorem c1a {c : List Ins} {k : Nat} (h : (a3e c)[k + 1]? = some true) : bkF c (k + 1) = bkF c k ++ [(stF c k, k + 1)] := by rw [bkF, if_pos h]
theorem c1b {c : List Ins} {k : Nat} (h : ¬ (a3e c)[k + 1]? = some true) : bkF c (k + 1) = bkF c k := by rw [bkF, if_neg h]
theorem b5e {c : List Ins} {j : Nat} : ∀ k, stF c k <= j -> j <= k -> bkF c j = bkF c k /\ stF c j = stF c k
 | 0, _, h => by rw [Nat.le_zero.1 h]; exact ⟨rfl, rfl⟩
 | k + 1, h1, h2 => by
   by_cases e : j = k + 1
   . subst e; exact ⟨rfl, rfl⟩
   . by_cases hl : (a3e c)[k + 1]? = some true
     . rw [c1q hl] at h1; omega
     . rw [c1b hl, b9h hl]
       rw [b9h hl] at h1
       exact b5e k h1 (by omega)
theorem a6t (c : List Ins) (n k : Nat) : (nmL c n k).length = n := by simp [nmL]
theorem e6u (c : List Ins) (n : Nat) : nmL c n 0 = List.replicate n 0 := by simp [nmL, List.map_const']
theorem f2b {c : List Ins} {n k : Nat} (h : k < n) : (nmL c n k).set k (nmF c k : Int) = nmL c n (k + 1) := by
 refine List.ext_getElem (by simp [nmL]) fun i h1 h2 => ?_
 rw [List.getElem_set]
 simp only [nmL, List.getElem_map, List.getElem_range]
 by_cases e : k = i
 . subst e; rw [if_pos rfl, if_pos (by omega)]
 . rw [if_neg e]
   by_cases e2 : i < k
   . rw [if_pos e2, if_pos (by omega)]
   . rw [if_neg e2, if_neg (by omega)]
theorem e3e {c : List Ins} {n k i : Nat} (h : i < n) (hk : i < k) : (nmL c n k)[i]? = some (nmF c i : Int) := by
 rw [nmL, List.getElem?_map, List.getElem?_range h]
 simp [hk]
theorem f9o {c : List Ins} {k : Nat} (h : (a3e c)[k]? = some true) (hk : 0 < k) : bkR c (k + 1) = bkR c k ++ [(k, k + 1)] := by
 obtain ⟨j, rfl⟩ : ∃ j, k = j + 1 := ⟨k - 1, by omega⟩
 rw [bkR, bkR, c1a h, c1q h]
theorem f9p {c : List Ins} {k : Nat} (h : ¬ (a3e c)[k]? = some true) (hk : 0 < k) : ∃ B x, bkR c k = B ++ [(x, k)] /\ bkR c (k + 1) = B ++ [(x, k + 1)] := by
 obtain ⟨j, rfl⟩ : ∃ j, k = j + 1 := ⟨k - 1, by omega⟩
 refine ⟨bkF c j, stF c j, rfl, ?_⟩
 rw [bkR, c1b h, b9h h]
theorem c5e {c : List Ins} {k : Nat} : (bkR c (k + 1)).length = nmF c k + 1 := by simp [bkR, nmF]
theorem e9i {c : List Ins} (hc : CodeOk c) : bkR c c.length = bkF c c.length := by
 have h := hc.ne
 obtain ⟨j, e⟩ : ∃ j, c.length = j + 1 := ⟨c.length - 1, by omega⟩
 have hl := (c0c hc).2
 rw [tN_] at hl
 rw [e] at hl ⊢
 rw [bkR, c1a hl]
theorem c3p {c : List Ins} (hc : CodeOk c) : stF c c.length = c.length := by
 have h := hc.ne
 have hl := (c0c hc).2
 rw [tN_] at hl
 obtain ⟨j, e⟩ : ∃ j, c.length = j + 1 := ⟨c.length - 1, by omega⟩
 rw [e] at hl ⊢
 exact c1q hl
structure BkIn (c : List Ins) (j : Nat) (b : Nat × Nat) : Prop where
 lt : b.1 < b.2
 num : ∀ i, b.1 <= i -> i < b.2 -> stF c i = b.1 /\ nmF c i = j
 l2 : (a3e c)[b.2]? = some true
 n2 : nmF c b.2 = j + 1
theorem d0o (c : List Ins) : ∀ k j (h : j < (bkF c k).length), BkIn c j (bkF c k)[j] /\ (bkF c k)[j].2 <= k
 | 0, _, h => by cases h
 | k + 1, j, h => by
   by_cases hl : (a3e c)[k + 1]? = some true
   . have e := c1a hl
     have h' : j < (bkF c k ++ [(stF c k, k + 1)]).length := by rw [<- e]; exact h
     have key : BkIn c j (bkF c k ++ [(stF c k, k + 1)])[j] /\ (bkF c k ++ [(stF c k, k + 1)])[j].2 <= k + 1 := by
      rw [List.getElem_append]
      split
      . rename_i h1
        have := d0o c k j h1
        exact ⟨this.1, by omega⟩
      . rename_i h1
        rw [List.length_append, List.length_singleton] at h'
        have e2 : j = (bkF c k).length := by omega
        simp only [e2, Nat.sub_self, List.getElem_cons_zero]
        refine ⟨⟨by have := b3u c k; omega, fun i h2 h3 => ?_, hl, ?_⟩, nr_ _⟩
        . obtain ⟨g1, g2⟩ := b5e (c := c) (j := i) k h2 (by simp only at h3; omega)
          exact ⟨g2, by rw [nmF, g1]⟩
        . show nmF c (k + 1) = _
          rw [nmF, e, List.length_append]; rfl
     simpa only [e] using key
   . have e := c1b hl
     have := d0o c k j (by rw [<- e]; exact h)
     simp only [e]
     exact ⟨this.1, by omega⟩
theorem e9g (c : List Ins) : ∀ k i, i < stF c k -> ∃ h : nmF c i < (bkF c k).length, (bkF c k)[nmF c i].1 <= i /\ i < (bkF c k)[nmF c i].2
 | 0, _, h => by cases h
 | k + 1, i, h => by
   by_cases hl : (a3e c)[k + 1]? = some true
   . have e := c1a hl
     rw [c1q hl] at h
     have key : ∃ h : nmF c i < (bkF c k ++ [(stF c k, k + 1)]).length, (bkF c k ++ [(stF c k, k + 1)])[nmF c i].1 <= i /\ i < (bkF c k ++ [(stF c k, k + 1)])[nmF c i].2 := by
      rcases Nat.lt_or_ge i (stF c k) with h1 | h1
      . obtain ⟨g1, g2, g3⟩ := e9g c k i h1
        refine ⟨by rw [List.length_append]; omega, ?_⟩
        rw [List.getElem_append_left g1]
        exact ⟨g2, g3⟩
      . obtain ⟨g1, g2⟩ := b5e (c := c) (j := i) k h1 (by omega)
        have g3 : nmF c i = (bkF c k).length := by rw [nmF, g1]
        refine ⟨by rw [List.length_append, List.length_singleton]; omega, ?_⟩
        simp only [g3]
        rw [List.getElem_append_right (nr_ _)]
        simp only [Nat.sub_self, List.getElem_cons_zero]
        exact ⟨h1, by omega⟩
     simpa only [e] using key
   . have e := c1b hl
     rw [b9h hl] at h
     have := e9g c k i h
     simpa only [e] using this
theorem c6v (c : List Ins) {i : Nat} : ∀ k, i <= k -> nmF c i <= nmF c k
 | 0, h => by rw [Nat.le_zero.1 h]; exact nr_ _
 | k + 1, h => by
   by_cases e : i = k + 1
   . subst e; exact nr_ _
   . have := c6v c (i := i) k (by omega)
     by_cases hl : (a3e c)[k + 1]? = some true
     . have : nmF c (k + 1) = nmF c k + 1 := by rw [nmF, c1a hl, List.length_append]; rfl
       omega
     . have : nmF c (k + 1) = nmF c k := by rw [nmF, c1b hl]; rfl
       omega
theorem d3p {c : List Ins} {i k : Nat} (h : i < k) (hl : (a3e c)[k]? = some true) : nmF c i < nmF c k := by
 obtain ⟨j, rfl⟩ : ∃ j, k = j + 1 := ⟨k - 1, by omega⟩
 have := c6v c (i := i) j (by omega)
 have : nmF c (j + 1) = nmF c j + 1 := by rw [nmF, c1a hl, List.length_append]; rfl
 omega
theorem c5c {c : List Ins} (hc : CodeOk c) {k j : Nat} (h : j + 1 < (bkF c k).length) : (bkF c k)[j + 1].1 = (bkF c k)[j].2 := by
 obtain ⟨h1, _⟩ := d0o c k j (by omega)
 obtain ⟨h2, _⟩ := d0o c k (j + 1) h
 have n1 := h1.n2
 have n2 := (h2.num _ (nr_ _) h2.lt).2
 have hl1 := h1.l2
 have hl2 : (a3e c)[(bkF c k)[j + 1].1]? = some true := by
  have := (h2.num _ (nr_ _) h2.lt).1
  cases hz : (bkF c k)[j + 1].1 with
  | zero =>
    have := ((a5e hc).2 (.inl rfl) : isM (a3e c) 0).2
    simpa using this
  | succ m =>
    rw [hz] at this
    by_cases hl : (a3e c)[m + 1]? = some true
    . exact hl
    . rw [b9h hl] at this
      have := b3u c m; omega
 rcases Nat.lt_trichotomy (bkF c k)[j + 1].1 (bkF c k)[j].2 with h3 | h3 | h3
 . have := d3p h3 hl1; omega
 . exact h3
 . have := d3p h3 hl2; omega
theorem c8u {c : List Ins} {k : Nat} (h : 0 < (bkF c k).length) : (bkF c k)[0].1 = 0 := by
 obtain ⟨h1, _⟩ := d0o c k 0 h
 have n2 := h1.num _ (nr_ _) h1.lt
 cases hz : (bkF c k)[0].1 with
 | zero => rfl
 | succ m =>
   rw [hz] at n2
   by_cases hl : (a3e c)[m + 1]? = some true
   . have := d3p (c := c) (i := m) (by omega) hl; omega
   . rw [b9h hl] at n2
     have := b3u c m; omega
theorem e9f {c : List Ins} {k : Nat} (h : 0 < (bkF c k).length) : (bkF c k)[(bkF c k).length - 1].2 = stF c k := by
 induction k with
 | zero => cases h
 | succ k ih =>
   by_cases hl : (a3e c)[k + 1]? = some true
   . have e := c1a hl
     have key : ∀ h : 0 < (bkF c k ++ [(stF c k, k + 1)]).length, (bkF c k ++ [(stF c k, k + 1)])[(bkF c k ++ [(stF c k, k + 1)]).length - 1].2 = k + 1 := fun h => by
      rw [List.getElem_append_right (by simp)]
      simp
     rw [c1q hl]
     simpa only [e] using key (by simp)
   . have e := c1b hl
     rw [b9h hl]
     have := ih (by rw [<- e]; exact h)
     simpa only [e] using this
end Go.Gv
