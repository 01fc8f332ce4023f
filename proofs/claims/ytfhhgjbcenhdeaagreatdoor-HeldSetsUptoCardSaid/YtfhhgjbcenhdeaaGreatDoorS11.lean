/- Part. -/
import Derived.Test.YtfhhgjbcenhdeaaGreatDoorS10
set_option linter.all false
set_option maxRecDepth 100000
set_option maxHeartbeats 0
namespace Go.Je
open Go Go.FM Go.Gv Go.Proofs
variable {i n : Nat} {l : List Int} {α : Type}
theorem c7w {n : Int} (h : 1 <= n /\ n <= 52) : (fIdx Tp 9 (.str (rlI n)) (.int .i64 0) = some (.int .u8 (rI n).1) /\ fIdx Tp 9 (.str (rlI n)) (.int .i64 1) = some (.int .u8 (rI n).2.1) /\ fIdx Tp 9 (.str (rlI n)) (.int .i64 2) = some (.int .u8 (rI n).2.2)) /\
 (fIdx Tp 9 (.str (rlR n)) (.int .i64 0) = some (.int .u8 (rR n).1) /\ fIdx Tp 9 (.str (rlR n)) (.int .i64 1) = some (.int .u8 (rR n).2.1) /\ fIdx Tp 9 (.str (rlR n)) (.int .i64 2) = some (.int .u8 (rR n).2.2)) /\ ((rlR n).data.toList == []) = false := by
 rcases Gv.b5i h with rfl | rfl | rfl | rfl | rfl | rfl | rfl | rfl | rfl | rfl | rfl | rfl | rfl | rfl | rfl | rfl | rfl | rfl | rfl | rfl | rfl | rfl | rfl | rfl | rfl | rfl | rfl | rfl | rfl | rfl | rfl | rfl | rfl | rfl | rfl | rfl | rfl | rfl | rfl | rfl | rfl | rfl | rfl | rfl | rfl | rfl | rfl | rfl | rfl | rfl | rfl | rfl
 all_goals (simp only [fIdx, e7b, rlI, rlR, rI, rR]; refine ⟨⟨by rfl, by rfl, by rfl⟩, ⟨by rfl, by rfl, by rfl⟩, by rfl⟩)
theorem g4t (a b c : Int) : fIdx Tp 130 (.agg [.int .i64 a, .int .i64 b, .int .i64 c]) (.int .i64 0) = some (.int .i64 a) := by simp [fIdx, c6p, b7p, c6m, c6n]
theorem g4s (a b c : Int) : fIdx Tp 130 (.agg [.int .i64 a, .int .i64 b, .int .i64 c]) (.int .i64 1) = some (.int .i64 b) := by simp [fIdx, c6p, b7p, c6m, c6n]
theorem g4r (a b c : Int) : fIdx Tp 130 (.agg [.int .i64 a, .int .i64 b, .int .i64 c]) (.int .i64 2) = some (.int .i64 c) := by simp [fIdx, c6p, b7p, c6m, c6n]
theorem g6c (h : i <= 3) : i = 0 \/ i = 1 \/ i = 2 \/ i = 3 := by omega
theorem c34 (k : Int) : Pq 75 [.int .i64 k] (.bool (a2v k)) := by
 refine zw Tryz.f75 [.tmp 2] 3 9 [] ?_
 repeat' first
  | refine wd ?_
  | (refine stpK ?_; intro K hK)
  | (refine stpC ?_; intro T E hT hE)
  | (refine stp2 ?_ ?_ <;> intro h)
  | (refine yg ?_; clear hK K)
  | (refine yh ?_; clear hT hE T E)
  | simp [*, -List.all_flatten, -List.all_eq_true, DEFO]
 all_goals (simp_all [a2v])
theorem c109 (p : Pg) (f : FnD) (x : Ins) (role v : Int) (hc : f.code.length <= 2000000) (hf : p.fu.length <= 2000000) (hg : p.gl.length <= 2000000) (hl : p.la.length <= 2000000) : Pq 166 [.agg [.list 4 (fns p.fu), .list 2 (gbs p.gl), .list 1 (lays p.la), .int .i64 p.main, .str f.name, .int .i64 f.params, .int .i64 f.regs, .list 5 (inss f.code)], .agg [.int .i64 x.op, .int .i64 x.a, .int .i64 x.b, .int .i64 x.c, .int .i64 x.d], .int .u8 role, .int .i64 v] (.bool (opI p f x role v)) := by
 have w1 := wl f.code.length ya; have w2 := wl p.fu.length ya; have w3 := wl p.gl.length ya; have w4 := wl p.la.length ya
 refine zw Tryz.f166 [.tmp 8] 9 181 [9] ?_
 repeat' first
  | with_reducible first | refine wd ?_ | refine stpK ?_; intro K hK | refine stpC ?_; intro T E hT hE | refine stp2 ?_ ?_ <;> intro h | refine a0n (id := 15) 31 a0d yc fun K hK => ?_ | refine a1v (c31 _ _ _) yr ?_ | refine hpc (c31 _ _ _) yr ?_ | refine yg ?_; clear hK K | refine yh ?_; clear hT hE T E
  | simp [*, -List.all_flatten, -List.all_eq_true, DEFO, -Bool.decide_and, z1c, a0j, Ins.row, FnD.row, Gb.row, a0v, A1w]
 all_goals first
  | (simp_all [opI, btw, opAt, a4d, A1w]; done)
  | (subst_vars; rw [<- A2g]; intro hh; simp [opI, btw, W, *] at hh <;> omega)
  | (rw [<- A2g]; intro hh; simp [opI, btw, W, *] at hh <;> omega)
theorem d1d (l : List Ins) : l.length = 0 \/ (¬ l.length = 0 /\ (1 : Int) <= (l.length : Int) /\ ∃ z : Ins, l[l.length - 1]? = some z /\ (inss l)[l.length - 1]? = some [.int .i64 z.op, .int .i64 z.a, .int .i64 z.b, .int .i64 z.c, .int .i64 z.d] /\ opAt l ((l.length : Int) - 1) = z.op) := by
 by_cases h : l.length = 0
 . exact .inl h
 . refine .inr ⟨h, by omega, l[l.length - 1]'ya, A5n _, ?_, ?_⟩
   . rw [A5n (by rw [a2i]; omega), a9r]; rfl
   . rw [b0e _ _ ya]
     congr 2
     omega
theorem e1g (s : ByteArray) : ((s.data.toList == []) = true /\ s.data.toList = []) \/ ((s.data.toList == []) = false /\ ¬ s.data.toList = []) := by
 cases h : s.data.toList with
 | nil => left; simp
 | cons a b => right; simp
theorem a0c (h : i <= n) : i < n \/ (¬ i < n /\ i = n) := by omega
theorem e5k {p : Pg} {f : FnD} {e : Int} (h : i < f.code.length) : b2k p f (f.code.drop i) e = (a8t p f f.code[i] && (if f.code[i].op = 51 then !decide (W (e - 1) < 0) && b2k p f (f.code.drop (i + 1)) (W (e - 1)) else if 0 < e then false else if f.code[i].op = 50 then !decide (f.code[i].b < 0) && b2k p f (f.code.drop (i + 1)) f.code[i].b else !decide (e < 0) && b2k p f (f.code.drop (i + 1)) e)) := by
 rw [A1r h, b2k]
theorem e5j {p : Pg} {f : FnD} {e : Int} (h : i < f.code.length) : b1l p f (f.code.drop i) e = (if decide (0 < e) = decide (f.code[i].op = 51) then a7t p f f.code[i] && b1l p f (f.code.drop (i + 1)) (if f.code[i].op = 50 then f.code[i].b else if 0 < e then W (e - 1) else e) else false) := by
 rw [A1r h, b1l]
theorem d0z (l : List α) : l.drop l.length = [] := by simp
theorem cl2 (h : i ≤ n) (hm : n ≤ 1000000000) : (i < n ∧ IntKind.wrap .i64 ((i : Int) + 1) = ((i + 1 : Nat) : Int)) ∨ (¬ i < n ∧ i = n) := (a0c h).imp_left fun h => ⟨h, wli h hm⟩
theorem f1g (l : List α) (q : α -> Bool) (h : i < l.length) : (l.drop i).all q = (q l[i] && (l.drop (i + 1)).all q) := by
 rw [A1r h, A3i]
theorem e2a (l : List α) (q : α -> Bool) : (l.drop l.length).all q = true := by simp
theorem c37 (l : List (List Int)) (hl : l.length <= 2000000) (hb : ∀ x ∈ l, x.length <= 2000000) : Pq 45 [.list 1 (lays l)] (.bool (layR l)) := by
 refine zw Tryz.f45 [.tmp 2] 5 47 [] ?_
 repeat' first
  | (refine yi ?_; refine a5f (fun y : {i : Nat // i <= l.length /\ l.all layB = (l.drop i).all layB} => (⟨[.list 1 (lays l), .undef, .bool false, .int .i64 (y.1 : Int), .undef], [], hpL [], []⟩ : Fs)) (fun y => l.length - y.1) ⟨0, by simp⟩ yg1 ?_; rintro ⟨i, hi, hk⟩; (try dsimp only at hi hk); have hk2 := hk; rcases a0c hi with hlt | ⟨hlt, rfl⟩; rotate_left; rw [e2a] at hk2; rotate_left; rw [f1g _ _ hlt] at hk2; have wi := wli hlt ya; have hle := hb _ (A5p hlt))
  | (refine yi ?_; refine a5f (fun y : {k : Nat // k <= (l[i]'hlt).length /\ (l[i]'hlt).all a2v = ((l[i]'hlt).drop k).all a2v} => (⟨[.list 1 (lays l), .undef, .bool false, .int .i64 (i : Int), .int .i64 (y.1 : Int)], [], hpL [], []⟩ : Fs)) (fun y => (l[i]'hlt).length - y.1) ⟨0, by simp⟩ yg1 ?_; rintro ⟨k, hj, hm⟩; (try dsimp only at hj hm); have hm2 := hm; rcases a0c hj with hlk | ⟨hlk, rfl⟩; rotate_left; rw [e2a] at hm2; rotate_left; rw [f1g _ _ hlk] at hm2; have wk := wli hlk ya)
  | (refine ye ?_; refine a0b (⟨i + 1, by omega, by rw [hk2, show layB l[i] = true from by rw [layB, hm2]; simp; omega, A4a]⟩) wn yf)
  | (refine ye ?_; refine a0b (⟨k + 1, by omega, by rw [hm2]; simp [a2v, *]⟩) wn yf)
  | refine wd ?_
  | (refine stpK ?_; intro K hK)
  | (refine stpC ?_; intro T E hT hE)
  | (refine stp2 ?_ ?_ <;> intro h)
  | (refine yg ?_; clear hK K)
  | (refine yh ?_; clear hT hE T E)
  | simp [*, -List.all_flatten, -List.all_eq_true, DEFO, z1c, a0j, Ins.row, FnD.row, Gb.row, a0v, A1w]
 all_goals first
  | (simp_all [layR, layB, a2v]; done)
  | (clear hk; simp_all [layR, layB, a2v]; done)
  | (clear hk; simp_all [layR, layB, a2v]; omega)
  | (rw [layR, hk2]; simp [layR, layB, a2v, *]; done)
  | (rw [layR, hk2]; simp [layR, layB, a2v, *] <;> omega)
  | (rw [layR, hk2, layB, hm2]; simp [a2v, *]; done)
  | (rw [layR, hk2, layB, show decide (l[i].length <= 64) = false from by simp; omega]; simp; done)
def b8x (s : ByteArray) : List FV := [.str s]
def strs (L : List (ByteArray)) : List (List FV) := L.map b8x
theorem a2e (L : List (ByteArray)) : (strs L).length = L.length := by simp [strs]
theorem a3o (a b : List (ByteArray)) : strs (a ++ b) = strs a ++ strs b := by simp [strs]
theorem b2a (a : ByteArray) : strs [a] = [b8x a] := rfl
theorem b0a : strs [] = [] := rfl
theorem a9f (n : Nat) (l : List (ByteArray)) : (strs l).take n = strs (l.take n) := by simp [strs, A2y]
theorem a3p (L : List (ByteArray)) : nlss (strs L) = true := by
 induction L with
 | nil => rfl
 | cons r rs ih => simpa [strs, nlss, nls, nl, b8x] using ih
def fidx (l : List Int) : Int := if l.all a2v then -1 else (l.findIdx (fun k => !a2v k) : Int)
theorem e6w (h : ∀ j (hj : j < l.length), a2v l[j] = true) : fidx l = -1 := by
 rw [fidx, if_pos]
 rw [List.all_eq_true]
 intro x hx
 obtain ⟨j, hj, rfl⟩ := A0g hx
 exact h j hj
theorem e0c (hi : i < l.length) (h : a2v l[i] = false) (hb : ∀ j (hj : j < l.length), j < i -> a2v l[j] = true) : fidx l = (i : Int) := by
 rw [fidx, if_neg]
 . congr 1
   rw [List.findIdx_eq hi]
   refine ⟨by simp [h], fun j hj => ?_⟩
   have := hb j ya hj
   simp [this]
 . intro ha
   have := List.all_eq_true.mp ha _ (A5p hi)
   rw [h] at this; cases this
theorem e0b (l : List Int) : decide (0 <= fidx l) = !(l.all a2v) := by
 unfold fidx
 cases h : l.all a2v <;> simp
def kOk (l : List Int) (i : Nat) : Prop := ∀ j (hj : j < l.length), j < i -> a2v l[j] = true
theorem g8a (l : List Int) : kOk l 0 := fun _ _ h => absurd h ya
theorem g7z (h : kOk l i) (hi : i < l.length) (e : a2v l[i] = true) : kOk l (i + 1) := by
 intro j hj hji
 by_cases e' : j = i
 . subst e'; exact e
 . exact h j hj ya
theorem c33 (k : Int) : Pq 74 [.int .i64 k] (.bool (!a2v k)) := by
 refine zw Tryz.f74 [.tmp 2] 3 6 [] ?_
 repeat' first
  | with_reducible first | refine wd ?_ | refine stpK ?_; intro K hK | refine stpC ?_; intro T E hT hE | refine stp2 ?_ ?_ <;> intro h | refine a1v (c34 _) yr ?_ | refine hpc (c34 _) yr ?_ | refine yg ?_; clear hK K | refine yh ?_; clear hT hE T E
  | simp [*, -List.all_flatten, -List.all_eq_true, DEFO]
theorem c60 (l : List Int) (hl : l.length <= 2000000) : Pq 123 [.list 1 (ints l), .clo 74 [] []] (.int .i64 (fidx l)) := by
 refine zw Tryz.f123 [.tmp 4] 6 19 [8, 7] ?_
 repeat' first
  | (refine yi ?_; refine a5f (fun y : {i : Nat // i <= l.length /\ kOk l i} => (⟨[.list 1 (ints l), .clo 74 [] [], .undef, .undef, .int .i64 0, .undef], [(7, .int .i64 (l.length : Int)), (8, .int .i64 (y.1 : Int))], hpL [], []⟩ : Fs)) (fun y => l.length - y.1) ⟨0, by simp, g8a l⟩ yg1 ?_; rintro ⟨i, hi, hk⟩; (try dsimp only at hi hk); rcases a0c hi with hlt | ⟨hlt, rfl⟩; have wi := wli hlt ya; cases hkb : a2v (l[i]'hlt))
  | (refine ye ?_; refine a0b (⟨i + 1, by omega, g7z hk hlt hkb⟩) wn yf)
  | with_reducible first | refine wd ?_ | refine stpK ?_; intro K hK | refine stpC ?_; intro T E hT hE | refine stp2 ?_ ?_ <;> intro h | refine a1v (c33 _) yr ?_ | refine hpc (c33 _) yr ?_ | refine yg ?_; clear hK K | refine yh ?_; clear hT hE T E
  | simp [*, -List.all_flatten, -List.all_eq_true, DEFO, z1c, a0j, Ins.row, FnD.row, Gb.row, a0v, A1w]
 all_goals first
  | (rw [e0c hlt hkb hk]; done)
  | (simp [e0c hlt hkb hk]; done)
  | (simp [e6w (fun j hj => hk j hj hj)]; done)
theorem c32 (l : List Int) (hl : l.length <= 2000000) : Pq 73 [.list 1 (ints l), .clo 74 [] []] (.bool (!(l.all a2v))) := by
 refine zw Tryz.f73 [.tmp 4] 5 9 [] ?_
 repeat' first
  | with_reducible first | refine wd ?_ | refine stpK ?_; intro K hK | refine stpC ?_; intro T E hT hE | refine stp2 ?_ ?_ <;> intro h | refine a1v (c60 l hl) yr ?_ | refine hpc (c60 l hl) yr ?_ | refine yg ?_; clear hK K | refine yh ?_; clear hT hE T E
  | simp [*, -List.all_flatten, -List.all_eq_true, DEFO, z1c, a0j, Ins.row, FnD.row, Gb.row, a0v, A1w, e0b]
 all_goals first
  | (simp [<- e0b]; done)
@[simp] theorem g5v : byT Tp 24 = (some 24) /\ byT Tp 141 = (some 8) /\ byT Tp 136 = (some 24) /\ fldT Tp 49 0 = (some 0) /\ fldT Tp 49 1 = (some 1) /\ fldT Tp 49 2 = (some 2) /\ fldT Tp 138 0 = (some 0) /\ fldT Tp 138 1 = (some 4) /\ fldT Tp 138 2 = (some 5) /\ fldT Tp 138 3 = (some 6) /\ fldT Tp 138 4 = (some 7) /\ fnOk Tp 27 = true /\ fnOk Tp 22 = true /\ fnOk Tp 89 = true /\ fnOk Tp 94 = true /\ fnOk Tp 64 = true /\ fnOk Tp 63 = true /\ fnOk Tp 152 = true /\ fnOk Tp 140 = true /\ fnOk Tp 112 = true /\ fnOk Tp 111 = true /\ fnOk Tp 49 = true /\ fnOk Tp 174 = true /\ fnOk Tp 176 = true /\ fnOk Tp 157 = true /\ fnOk Tp 153 = true /\ fnOk Tp 154 = true /\ fnOk Tp 155 = true /\ fnOk Tp 156 = true /\ fnOk Tp 12 = true := by and_intros <;> kernel_rfl
@[simp] theorem g3j : fnOk Tp 21 = true /\ fnOk Tp 202 = true /\ fnOk Tp 62 = true /\ fnOk Tp 178 = true /\ ldT Tp 46 = (some none) /\ ldT Tp 47 = (some none) /\ ldT Tp 49 = (some (some 3)) /\ ldT Tp 4 = (some none) /\ ldT Tp 131 = (some none) /\ ldT Tp 141 = (some none) /\ ldT Tp 143 = (some none) /\ ldT Tp 134 = (some none) /\ ldT Tp 135 = (some none) /\ ldT Tp 136 = (some none) := by and_intros <;> kernel_rfl
@[simp] theorem b7o : mpT Tp 141 = (some (3, 158)) := by kernel_rfl
@[simp] theorem c4h : mpT Tp 134 = (some (98, 3)) := by kernel_rfl
@[simp] theorem f0r : a3v Tp 49 = (some ((0, 1) :: ((1, 1) :: ((2, 1) :: [])))) /\ a3v Tp 158 = (some []) /\ a3v Tp 138 = (some ((0, 4) :: ((4, 1) :: ((5, 1) :: ((6, 1) :: ((7, 1) :: [])))))) /\ a3v Tp 42 = (some ((0, 1) :: ((1, 1) :: ((2, 1) :: ((3, 1) :: ((4, 1) :: [])))))) /\ slT Tp 47 = (some (24, 1)) /\ slT Tp 135 = (some (136, 1)) /\ slT Tp 136 = (some (141, 1)) /\ szT Tp 47 = (some 1) /\ szT Tp 49 = (some 3) /\ szT Tp 4 = (some 1) /\ szT Tp 98 = (some 2) /\ szT Tp 36 = (some 1) /\ szT Tp 158 = (some 0) /\ szT Tp 135 = (some 1) /\ szT Tp 136 = (some 1) /\ a2y Tp 24 = (some (FV.nils :: [])) /\ a2y Tp 49 = (some (FV.nils :: (FV.nils :: (FV.nils :: [])))) /\ a2y Tp 4 = (some ((FV.bool false) :: [])) /\ a2y Tp 141 = (some (FV.nilm :: [])) /\ a2y Tp 158 = (some []) /\ a2y Tp 136 = (some (FV.nils :: [])) /\ a2y Tp 138 = (some (FV.nils :: (FV.nils :: (FV.nils :: ((FV.int Go.IntKind.i64 0) :: (FV.nils :: (FV.nilm :: (FV.nils :: (FV.nils :: []))))))))) := by and_intros <;> kernel_rfl
@[simp] theorem e0d : c4y Tp 3 = (some (FV.int Go.IntKind.i64 0)) := by kernel_rfl
@[simp] theorem c6l : c4y Tp 158 = (some (FV.agg [])) := by kernel_rfl
def a6r (l : List (List Int)) : List FV := [.list 1 (lays l)]
def lls (L : List (List (List Int))) : List (List FV) := L.map a6r
theorem a4x (L : List (List (List Int))) : (lls L).length = L.length := by simp [lls]
theorem c9r {L : List (List (List Int))} {i : Nat} (h : i < (lls L).length) : (lls L)[i] = a6r (L[i]'(by rwa [a4x] at h)) := by simp [lls]
theorem b9f (a b : List (List (List Int))) : lls (a ++ b) = lls a ++ lls b := by simp [lls]
theorem d7x (a : List (List Int)) : lls [a] = [a6r a] := rfl
theorem d7y : lls [] = [] := rfl
theorem b0k (n : Nat) (l : List (List (List Int))) : (lls l).take n = lls (l.take n) := by simp [lls, A2y]
theorem a5j (L : List (List (List Int))) : nlss (lls L) = true := by
 induction L with
 | nil => rfl
 | cons r rs ih => simpa [lls, nlss, nls, nl, a6r, a1a] using ih
def a9h (s : Int × Int) : List FV := [.int .i64 s.1, .int .i64 s.2]
def sits (L : List (Int × Int)) : List (List FV) := L.map a9h
theorem a2f (L : List (Int × Int)) : (sits L).length = L.length := by simp [sits]
theorem c0e {L : List (Int × Int)} {i : Nat} (h : i < (sits L).length) : (sits L)[i] = a9h (L[i]'(by rwa [a2f] at h)) := by simp [sits]
theorem c5p (a b : List (Int × Int)) : sits (a ++ b) = sits a ++ sits b := by simp [sits]
theorem e3w (a : Int × Int) : sits [a] = [a9h a] := rfl
theorem e3x : sits [] = [] := rfl
theorem a7l (n : Nat) (l : List (Int × Int)) : (sits l).take n = sits (l.take n) := by simp [sits, A2y]
theorem a1i (L : List (Int × Int)) : nlss (sits L) = true := by
 induction L with
 | nil => rfl
 | cons r rs ih => simpa [sits, nlss, nls, nl, a9h] using ih
theorem a6j (L : List (Int × Int)) : (sits L).flatten.all FV.cellV = true := by
 induction L with
 | nil => rfl
 | cons r rs ih => simp [sits, FV.cellV, a9h]
theorem szn {k : Nat} (h : n <= 1000000000) (hk : k <= 100) : (n + n / 4 + 192) * k <= 140737488355328 := by
 have h1 : n + n / 4 + 192 <= 1300000000 := by omega
 have := Nat.mul_le_mul h1 hk
 omega
theorem b6w (l : List (List Int)) (h : i < l.length) : lays (l.take (i + 1)) = lays (l.take i) ++ [[.list 1 (ints l[i])]] := by
 rw [A0y, A5n h, a1q]; rfl
theorem g8s (n : Int) : fMax (.int .i64 0) [.int .i64 n] = some (.int .i64 (mx0 n)) := by simp [fMax, mx0]
theorem wlen (n : Nat) (h : n <= 1000000000) : IntKind.wrap .i64 (1 + (n : Int)) = 1 + (n : Int) := by rw [IntKind.wrap_i64]; omega
theorem a9q (n : Nat) (l : List Int) : (ints l).drop n = ints (l.drop n) := by simp [ints, List.map_drop]
theorem a9d (l : List Int) (i : Nat) : (l.drop i).take (l.length - i) = l.drop i := by rw [A6a]; simp
theorem c7y (l : List Int) (h : i <= l.length) (a : List FV) : List.take (i + 1) (ints (List.take i l) ++ [a]) = ints (List.take i l) ++ [a] := by
 rw [A6a]; simp [a0o]; omega
theorem c7x (l : List Int) (h : i <= l.length) (a : List FV) : List.take (l.length + 1) (ints (List.take i l) ++ a :: ints (List.drop i l)) = ints (List.take i l) ++ a :: ints (List.drop i l) := by
 rw [A6a]; simp [a0o]; omega
theorem b1z (l : List Int) (a : List FV) : List.take (l.length + 1) (ints l ++ [a]) = ints l ++ [a] := by
 rw [A6a]; simp [a0o]
theorem a4p (a : Int) (l : List Int) : ints (a :: l) = [.int .i64 a] :: ints l := rfl
theorem d1o (h : i <= n) : i + (n - i + 1) = n + 1 := by omega
theorem c4w (h : i <= n) : i + 1 + (n - i) = n + 1 := by omega
theorem e7r (a n : Int) : (a < n /\ ¬ a = n) \/ (¬ a < n /\ a = n) \/ (¬ a < n /\ ¬ a = n) := by omega
def zk := cj @a3k (cj @a3j (cj @a1a (cj @a1i (cj @a0g (cj @a1p @a5j)))))
def z2m := cj @c7g (cj @MG_t (cj @MG_f (cj @a4x (cj @a0t (cj @a0o (cj @a0g (cj @a1a @a5j)))))))
end Go.Je
namespace Go.Je
open Go Go.FM Go.Gv Go.Proofs
set_option linter.defProp false
theorem f0p {H : Heap} {k : Nat} {xs : List (List FV)} (h : nlss xs = true) : frzR H (k + 1) xs = some xs := by
 unfold frzR
 rw [if_pos h]
def HPXB := cj @Go.FM.a7j (cj @Go.FM.b4p (cj @Go.FM.a8m (cj @Go.FM.a2c (cj @Go.FM.b8k (cj @Go.FM.a4l (cj @Go.FM.a3g (cj @Go.FM.b0c (cj @Go.FM.a7n (@Go.FM.a0q)))))))))
def NLXB := cj @PA_eq (cj @Go.FM.nls.eq_1 (cj @Go.FM.nls.eq_2 (cj @Go.FM.nl.eq_1 (cj @Go.FM.nl.eq_2 (cj @Go.FM.nl.eq_3 (cj @Go.FM.nl.eq_4 (cj @Go.FM.nl.eq_5 (cj @Go.FM.nl.eq_6 (cj @Go.FM.nl.eq_7 (cj @Go.FM.nl.eq_8 (cj @Go.FM.nl.eq_9 (cj @Go.FM.nl.eq_10 (cj @Go.FM.nl.eq_11 (cj @Go.FM.nl.eq_12 (cj @Go.FM.nl.eq_13 (cj @Go.FM.nl.eq_14 (cj @Go.FM.nl.eq_15 (cj @Go.FM.nl.eq_16 (cj @Go.FM.nl.eq_17 (cj @Go.Je.a0g (cj @Go.Je.a1p (cj @Go.Je.a3k (cj @Go.Je.a3j (cj @Go.Je.a1a (cj @Go.Je.a3p (cj @Go.Je.a5j (@Go.Je.a1i)))))))))))))))))))))))))))
def SIMB := cj @Go.FM.e5g (cj @Go.FM.f4u (cj @Go.FM.g1t (cj @Go.FM.f4v (cj @Go.FM.mV.eq_def (cj @Go.FM.mSl.eq_def (cj @Go.FM.mPt.eq_def (cj @Go.FM.mMp.eq_def (cj @Go.FM.b9c (cj @Go.FM.c9o (cj @Go.FM.d7n (cj @Go.FM.a1j (cj @Go.FM.nlss.eq_1 (cj @Go.FM.nlss.eq_2 (cj @Go.FM.nls.eq_1 (cj @Go.FM.nls.eq_2 (cj @Go.FM.nl.eq_1 (cj @Go.FM.nl.eq_2 (cj @Go.FM.nl.eq_3 (cj @Go.FM.nl.eq_4 (cj @Go.FM.nl.eq_5 (cj @Go.FM.nl.eq_6 (cj @Go.FM.nl.eq_7 (cj @Go.FM.nl.eq_8 (cj @Go.FM.nl.eq_9 (cj @Go.FM.nl.eq_10 (cj @Go.FM.nl.eq_11 (cj @Go.FM.nl.eq_12 (cj @Go.FM.nl.eq_13 (cj @Go.FM.nl.eq_14 (cj @Go.FM.nl.eq_15 (cj @Go.FM.nl.eq_16 (cj @Go.FM.nl.eq_17 (cj @Go.FM.a7m.eq_1 (cj @Go.FM.a7m.eq_2 (cj @Go.FM.a7m.eq_3 (cj @Go.FM.simV.eq_def (cj @Go.FM.simT.eq_1 (cj @Go.FM.simT.eq_2 (cj @Go.FM.simH.eq_1 (cj @Go.FM.simH.eq_2 (cj @Go.FM.simO.eq_def (cj @Go.FM.renO.eq_def (cj @Go.FM.innO.eq_def (cj @Go.FM.ren.eq_1 (cj @Go.FM.ren.eq_2 (cj @Go.FM.ren.eq_3 (cj @Go.FM.ren.eq_4 (cj @Go.FM.ren.eq_5 (cj @Go.FM.ren.eq_6 (cj @Go.FM.ren.eq_7 (cj @Go.FM.inn.eq_1 (cj @Go.FM.inn.eq_2 (cj @Go.FM.inn.eq_3 (cj @Go.FM.inn.eq_4 (cj @Go.FM.inn.eq_5 (cj @Go.FM.inn.eq_6 (cj @Go.FM.inn.eq_7 (cj @Go.FM.inn.eq_8 (cj @Go.FM.inn.eq_9 (cj @Go.FM.rens.eq_1 (cj @Go.FM.rens.eq_2 (cj @Go.FM.inns.eq_1 (cj @Go.FM.inns.eq_2 (cj @Go.FM.renss.eq_1 (cj @Go.FM.renss.eq_2 (cj @Go.FM.a3z.eq_1 (cj @Go.FM.a3z.eq_2 (cj @Go.FM.rene.eq_1 (cj @Go.FM.rene.eq_2 (cj @Go.FM.inne.eq_1 (cj @Go.FM.inne.eq_2 (cj @Go.FM.bk.eq_1 (cj @Go.FM.bk.eq_2 (cj @Go.FM.lk.eq_1 (cj @Go.FM.lk.eq_2 (cj @Go.FM.a7j (cj @Go.FM.b4p (cj @Go.FM.a8m (cj @Go.FM.a2c (cj @Go.FM.b8k (cj @Go.FM.a4l (cj @Go.FM.a3g (cj @Go.FM.b0c (cj @Go.FM.a7n (cj @Go.FM.a0q (cj @List.cons_append.{0} (cj @List.nil_append.{0} (cj @List.append_nil.{0} (cj @Go.FM.a6y (cj @Go.FM.b0o (cj @Go.FM.a9j (cj @Go.FM.a8i (cj @Go.Je.a0g (cj @Go.Je.a0o (cj @Go.Je.a2u (cj @Go.Je.a5k (cj @Go.Je.a1z (cj @Go.Je.a1d (cj @Go.Je.a1p (cj @Go.Je.a2i (cj @Go.Je.b7a (cj @Go.Je.c9z (cj @Go.Je.d0a (cj @Go.Je.b6z (cj @Go.Je.a3k (cj @Go.Je.a2a (cj @Go.Je.b3r (cj @Go.Je.d9u (cj @Go.Je.d9v (cj @Go.Je.b5p (cj @Go.Je.a3j (cj @Go.Je.a7v (cj @Go.Je.b9k (cj @Go.Je.d9n (cj @Go.Je.d9o (cj @Go.Je.c1l (cj @Go.Je.a1a (cj @Go.Je.a0t (cj @Go.Je.a1q (cj @Go.Je.c9u (cj @Go.Je.a8g (cj @Go.Je.a2x (cj @Go.Je.a3p (cj @Go.Je.a2e (cj @Go.Je.a3o (cj @Go.Je.b2a (cj @Go.Je.b0a (cj @Go.Je.a9f (cj @Go.Je.a5j (cj @Go.Je.a4x (cj @Go.Je.b9f (cj @Go.Je.d7x (cj @Go.Je.d7y (cj @Go.Je.b0k (cj @Go.Je.a1i (cj @Go.Je.a2f (cj @Go.Je.c5p (cj @Go.Je.e3w (cj @Go.Je.e3x (cj @Go.Je.a7l (cj @Go.Je.a9h.eq_def (cj @List.take_take.{0} (cj @Nat.min_self (cj @List.length_append.{0} (cj @List.take_of_length_le.{0} (@List.filter_append.{0}))))))))))))))))))))))))))))))))))))))))))))))))))))))))))))))))))))))))))))))))))))))))))))))))))))))))))))))))))))))))))))))))))))))))))))))))))
def LPXB := cj @Go.FM.c0i (cj @Go.FM.b6g (cj @List.set_cons_zero.{0} (cj @List.set_cons_succ.{0} (cj @Go.FM.b6h (cj @Go.FM.b3c (cj @Go.FM.b0c (cj @Go.FM.a7n (cj @Go.FM.c2b (cj @Go.FM.b7y (cj @Go.FM.c2a (cj @Go.FM.a6s.eq_def (cj @List.map_cons.{0,0} (cj @List.map_nil.{0,0} (cj @Go.FM.lk.eq_1 (cj @Go.FM.lk.eq_2 (cj @List.nil_append.{0} (cj @List.cons_append.{0} (cj @List.append_nil.{0} (cj @List.contains_cons.{0} (cj @List.contains_nil.{0} (@List.cons.injEq.{0})))))))))))))))))))))
def LENB := cj @Go.Je.a0o (cj @Go.Je.a0g (cj @Go.Je.b6y (cj @Go.Je.a2i (cj @Go.Je.a1p (cj @Go.Je.a9r (cj @Go.Je.a2a (cj @Go.Je.a3k (cj @Go.Je.b4h (cj @Go.Je.a7v (cj @Go.Je.a3j (cj @Go.Je.f0m (cj @Go.Je.a0t (cj @Go.Je.a1a (cj @Go.Je.a9p (cj @Go.Je.a4x (cj @Go.Je.a5j (cj @Go.Je.c9r (cj @Go.Je.a2f (cj @Go.Je.a1i (cj @Go.Je.c0e (cj @Go.Je.a0j.eq_def (cj @Go.Gv.Ins.row.eq_def (cj @Go.Gv.FnD.row.eq_def (cj @Go.Gv.Gb.row.eq_def (cj @Go.Je.a0v.eq_def (cj @Go.Je.a6r.eq_def (@Go.Je.a9h.eq_def)))))))))))))))))))))))))))
def DEFB := cj @PA_eq (cj @Go.FM.a3r (cj @Go.FM.Fs.init.eq_def (cj @Go.FM.Fs.get.eq_def (cj @Go.FM.Fs.put.eq_def (cj @Go.FM.Fs.clean.eq_def (cj @Go.FM.lk.eq_1 (cj @Go.FM.lk.eq_2 (cj @Go.FM.upd.eq_def (cj @Go.FM.ext.eq_def (cj @Go.FM.cv1.eq_def (cj @Go.FM.cv.eq_def (cj @Go.FM.rv.eq_def (cj @Go.FM.FV.isU.eq_def (cj @Go.FM.FV.cellV.eq_def (cj @Go.FM.FV.cellsL.eq_def (cj @Go.FM.FV.storable.eq_def (cj @Go.FM.b4s.eq_def (cj @Go.FM.b7s.eq_def (cj @Go.FM.b7r.eq_def (cj @Go.FM.fLen.eq_def (cj @Go.FM.fBin.eq_def (cj @Go.FM.fUn.eq_def (cj @Go.FM.c6s.eq_def (cj @Go.FM.b8n.eq_def (cj @Go.FM.b7q.eq_def (cj @Go.FM.a7c.eq_1 (cj @Go.FM.a7c.eq_2 (cj @Go.FM.b2u.eq_1 (cj @Go.FM.b2u.eq_2 (cj @Go.FM.pv.eq_def (cj @Go.FM.pv1.eq_def (cj @Go.FM.pv2.eq_def (cj @Go.FM.wv.eq_def (cj @Go.FM.b4b.eq_def (cj @Go.FM.wBox.eq_def (cj @Go.FM.a6u.eq_def (cj @Go.FM.a5u.eq_def (cj @Go.FM.b4a.eq_def (cj @Go.FM.b1y.eq_def (cj @Go.FM.b0z.eq_def (cj @Go.FM.wApp.eq_def (cj @Go.FM.srcA.eq_def (cj @Go.FM.a5c.eq_1 (cj @Go.FM.a5c.eq_2 (cj @Go.FM.upds.eq_def (cj @List.foldl_cons.{0,0} (cj @List.foldl_nil.{0,0} (cj @Go.FM.b2w.eq_def (cj @Go.FM.fNil.eq_def (cj @Go.FM.fUn2.eq_def (cj @Go.FM.c6t.eq_def (cj @Go.FM.fCmp.eq_def (cj @Go.FM.c4i.eq_def (cj @Go.FM.eqK.eq_1 (cj @Go.FM.eqK.eq_2 (cj @Go.FM.a2l.eq_1 (cj @Go.FM.a2l.eq_2 (cj @Go.FM.a2l.eq_3 (cj @Go.FM.eqV.eq_1 (cj @Go.FM.eqV.eq_2 (cj @Go.FM.eqV.eq_3 (cj @Go.FM.eqV.eq_4 (cj @Go.FM.FV.kd.eq_def (cj @Go.FM.c6u.eq_def (cj @Go.FM.nilV.eq_def (cj @Go.FM.putD.eq_def (cj @Go.FM.a0l.eq_def (cj @Go.FM.a0x.eq_def (cj @Go.FM.b0u.eq_1 (cj @Go.FM.b0u.eq_2 (cj @Go.FM.a2t.eq_def (cj @Go.FM.b8q.eq_def (cj @Go.FM.resV.eq_def (cj @Go.FM.resL.eq_1 (cj @Go.FM.resL.eq_2 (cj @Go.FM.a0p.eq_def (cj @Go.FM.StK.eq_def (cj @Go.FM.b4x (cj @Go.FM.b1x (cj @Go.FM.e8t (cj @Go.FM.e8u (cj @Go.FM.d1w (cj @Go.FM.d1x (cj @Go.FM.b8p.eq_def (cj @Go.FM.HG_t (cj @Go.FM.HG_f (cj @Go.FM.e8r (cj @Go.FM.e8s (cj @Go.FM.nl.eq_1 (cj @Go.FM.nl.eq_2 (cj @Go.FM.nl.eq_3 (cj @Go.FM.nl.eq_4 (cj @Go.FM.nl.eq_5 (cj @Go.FM.nl.eq_6 (cj @Go.FM.nl.eq_7 (cj @Go.FM.nl.eq_8 (cj @Go.FM.nl.eq_9 (cj @Go.FM.nl.eq_10 (cj @Go.FM.nl.eq_11 (cj @Go.FM.nl.eq_12 (cj @Go.FM.nl.eq_13 (cj @Go.FM.nl.eq_14 (cj @Go.FM.nl.eq_15 (cj @Go.FM.nl.eq_16 (cj @Go.FM.nl.eq_17 (cj @Go.FM.nls.eq_1 (cj @Go.FM.nls.eq_2 (cj @Go.FM.nlss.eq_1 (cj @Go.FM.nlss.eq_2 (cj @Go.FM.frz.eq_1 (cj @Go.FM.frz.eq_2 (cj @Go.FM.frz.eq_3 (cj @Go.FM.frz.eq_4 (cj @Go.FM.frz.eq_5 (cj @Go.FM.frzs.eq_1 (cj @Go.FM.frzs.eq_2 (cj @Go.FM.frzs.eq_3 (cj @Go.FM.frzR.eq_1 (cj @Go.FM.frzR.eq_2 (cj @Go.FM.frzR.eq_3 (cj @f0p (cj @Go.FM.asR.eq_1 (cj @Go.FM.asR.eq_2 (cj @Go.FM.asR.eq_3 (cj @Go.FM.asR.eq_4 (cj @Go.FM.asRs.eq_1 (cj @Go.FM.asRs.eq_2 (cj @Go.FM.Fend.eq_def (cj @Go.FM.d1q (cj @Go.FM.b5o (cj @Go.FM.b2s (cj @Go.FM.frzN.eq_def (cj @Go.FM.nf.eq_1 (cj @Go.FM.nf.eq_2 (cj @Go.FM.nf.eq_3 (cj @Go.FM.nf.eq_4 (cj @Go.FM.nf.eq_5 (cj @Go.FM.nf.eq_6 (cj @Go.FM.nf.eq_7 (cj @Go.FM.nf.eq_8 (cj @Go.FM.nf.eq_9 (cj @Go.FM.nf.eq_10 (cj @Go.FM.nf.eq_11 (cj @Go.FM.nf.eq_12 (cj @Go.FM.nf.eq_13 (cj @Go.FM.nf.eq_14 (cj @Go.FM.nf.eq_15 (cj @Go.FM.nf.eq_16 (cj @Go.FM.nf.eq_17 (cj @Go.FM.nfs.eq_1 (cj @Go.FM.nfs.eq_2 (cj @Go.FM.a8h.eq_def (cj @Go.FM.b3t.eq_def (cj @Go.FM.a7j (cj @Go.FM.b4p (cj @Go.FM.a8m (cj @Go.FM.a2c (cj @Go.FM.b8k (cj @Go.FM.a4l (cj @Go.FM.a3g (cj @Go.FM.b0c (cj @Go.FM.a7n (cj @Go.FM.a0q (cj @Go.FM.b1p.eq_def (cj @Go.FM.lpS.eq_def (cj @Go.FM.c0i (cj @Go.FM.b6g (cj @List.set_cons_zero.{0} (cj @List.set_cons_succ.{0} (cj @Go.FM.b6h (cj @Go.FM.b3c (cj @Go.FM.c2b (cj @Go.FM.b7y (cj @Go.FM.c2a (cj @Go.FM.a6s.eq_def (cj @List.cons.injEq.{0} (@List.contains_cons.{0})))))))))))))))))))))))))))))))))))))))))))))))))))))))))))))))))))))))))))))))))))))))))))))))))))))))))))))))))))))))))))))))))))))))))))))))))))))))))))))))))))))))))))))))))
def DEFM := cj @PA_eq (cj @Go.FM.a3r (cj @Go.FM.Fs.init.eq_def (cj @Go.FM.Fs.get.eq_def (cj @Go.FM.Fs.put.eq_def (cj @Go.FM.Fs.clean.eq_def (cj @Go.FM.lk.eq_1 (cj @Go.FM.lk.eq_2 (cj @Go.FM.upd.eq_def (cj @Go.FM.ext.eq_def (cj @Go.FM.cv1.eq_def (cj @Go.FM.cv.eq_def (cj @Go.FM.rv.eq_def (cj @Go.FM.FV.isU.eq_def (cj @Go.FM.FV.cellV.eq_def (cj @Go.FM.FV.cellsL.eq_def (cj @Go.FM.FV.storable.eq_def (cj @Go.FM.b4s.eq_def (cj @Go.FM.b7s.eq_def (cj @Go.FM.b7r.eq_def (cj @Go.FM.fLen.eq_def (cj @Go.FM.fBin.eq_def (cj @Go.FM.fUn.eq_def (cj @Go.FM.c6s.eq_def (cj @Go.FM.b8n.eq_def (cj @Go.FM.b7q.eq_def (cj @Go.FM.a7c.eq_1 (cj @Go.FM.a7c.eq_2 (cj @Go.FM.b2u.eq_1 (cj @Go.FM.b2u.eq_2 (cj @Go.FM.pv.eq_def (cj @Go.FM.pv1.eq_def (cj @Go.FM.pv2.eq_def (cj @Go.FM.wv.eq_def (cj @Go.FM.b4b.eq_def (cj @Go.FM.wBox.eq_def (cj @Go.FM.a6u.eq_def (cj @Go.FM.a5u.eq_def (cj @Go.FM.b4a.eq_def (cj @Go.FM.b1y.eq_def (cj @Go.FM.wApp.eq_def (cj @Go.FM.srcA.eq_def (cj @Go.FM.a5c.eq_1 (cj @Go.FM.a5c.eq_2 (cj @Go.FM.upds.eq_def (cj @List.foldl_cons.{0,0} (cj @List.foldl_nil.{0,0} (cj @Go.FM.fNil.eq_def (cj @Go.FM.fUn2.eq_def (cj @Go.FM.c6t.eq_def (cj @Go.FM.fCmp.eq_def (cj @Go.FM.c4i.eq_def (cj @Go.FM.eqK.eq_1 (cj @Go.FM.eqK.eq_2 (cj @Go.FM.a2l.eq_1 (cj @Go.FM.a2l.eq_2 (cj @Go.FM.a2l.eq_3 (cj @Go.FM.eqV.eq_1 (cj @Go.FM.eqV.eq_2 (cj @Go.FM.eqV.eq_3 (cj @Go.FM.eqV.eq_4 (cj @Go.FM.FV.kd.eq_def (cj @Go.FM.c6u.eq_def (cj @Go.FM.nilV.eq_def (cj @Go.FM.putD.eq_def (cj @Go.FM.a0l.eq_def (cj @Go.FM.a0x.eq_def (cj @Go.FM.b0u.eq_1 (cj @Go.FM.b0u.eq_2 (cj @Go.FM.a2t.eq_def (cj @Go.FM.b8q.eq_def (cj @Go.FM.resV.eq_def (cj @Go.FM.resL.eq_1 (cj @Go.FM.resL.eq_2 (cj @Go.FM.a0p.eq_def (cj @Go.FM.StK.eq_def (cj @Go.FM.b4x (cj @Go.FM.b1x (cj @Go.FM.e8t (cj @Go.FM.e8u (cj @Go.FM.d1w (cj @Go.FM.d1x (cj @Go.FM.b8p.eq_def (cj @Go.FM.HG_t (cj @Go.FM.HG_f (cj @Go.FM.e8r (cj @Go.FM.e8s (cj @Go.FM.nl.eq_1 (cj @Go.FM.nl.eq_2 (cj @Go.FM.nl.eq_3 (cj @Go.FM.nl.eq_4 (cj @Go.FM.nl.eq_5 (cj @Go.FM.nl.eq_6 (cj @Go.FM.nl.eq_7 (cj @Go.FM.nl.eq_8 (cj @Go.FM.nl.eq_9 (cj @Go.FM.nl.eq_10 (cj @Go.FM.nl.eq_11 (cj @Go.FM.nl.eq_12 (cj @Go.FM.nl.eq_13 (cj @Go.FM.nl.eq_14 (cj @Go.FM.nl.eq_15 (cj @Go.FM.nl.eq_16 (cj @Go.FM.nl.eq_17 (cj @Go.FM.nls.eq_1 (cj @Go.FM.nls.eq_2 (cj @Go.FM.nlss.eq_1 (cj @Go.FM.nlss.eq_2 (cj @Go.FM.frz.eq_1 (cj @Go.FM.frz.eq_2 (cj @Go.FM.frz.eq_3 (cj @Go.FM.frz.eq_4 (cj @Go.FM.frz.eq_5 (cj @Go.FM.frzs.eq_1 (cj @Go.FM.frzs.eq_2 (cj @Go.FM.frzs.eq_3 (cj @Go.FM.frzR.eq_1 (cj @Go.FM.frzR.eq_2 (cj @Go.FM.frzR.eq_3 (cj @f0p (cj @Go.FM.asR.eq_1 (cj @Go.FM.asR.eq_2 (cj @Go.FM.asR.eq_3 (cj @Go.FM.asR.eq_4 (cj @Go.FM.asRs.eq_1 (cj @Go.FM.asRs.eq_2 (cj @Go.FM.Fend.eq_def (cj @Go.FM.d1q (cj @Go.FM.b5o (cj @Go.FM.b2s (cj @Go.FM.frzN.eq_def (cj @Go.FM.nf.eq_1 (cj @Go.FM.nf.eq_2 (cj @Go.FM.nf.eq_3 (cj @Go.FM.nf.eq_4 (cj @Go.FM.nf.eq_5 (cj @Go.FM.nf.eq_6 (cj @Go.FM.nf.eq_7 (cj @Go.FM.nf.eq_8 (cj @Go.FM.nf.eq_9 (cj @Go.FM.nf.eq_10 (cj @Go.FM.nf.eq_11 (cj @Go.FM.nf.eq_12 (cj @Go.FM.nf.eq_13 (cj @Go.FM.nf.eq_14 (cj @Go.FM.nf.eq_15 (cj @Go.FM.nf.eq_16 (cj @Go.FM.nf.eq_17 (cj @Go.FM.nfs.eq_1 (cj @Go.FM.nfs.eq_2 (cj @Go.FM.a8h.eq_def (cj @Go.FM.b3t.eq_def (cj @Go.FM.a7j (cj @Go.FM.b4p (cj @Go.FM.a8m (cj @Go.FM.a2c (cj @Go.FM.b8k (cj @Go.FM.a4l (cj @Go.FM.a3g (cj @Go.FM.b0c (cj @Go.FM.a7n (cj @Go.FM.a0q (cj @Go.FM.b1p.eq_def (cj @Go.FM.lpS.eq_def (cj @Go.FM.c0i (cj @Go.FM.b6g (cj @List.set_cons_zero.{0} (cj @List.set_cons_succ.{0} (cj @Go.FM.b6h (cj @Go.FM.b3c (cj @Go.FM.c2b (cj @Go.FM.b7y (cj @Go.FM.c2a (cj @Go.FM.a6s.eq_def (cj @List.cons.injEq.{0} (@List.contains_cons.{0})))))))))))))))))))))))))))))))))))))))))))))))))))))))))))))))))))))))))))))))))))))))))))))))))))))))))))))))))))))))))))))))))))))))))))))))))))))))))))))))))))))))))))))))
def yl := cj @DEFB @LENB
end Go.Je
namespace Go.Je
open Go Go.FM Go.Gv Go.Proofs
theorem c5j (l : List Int) (n : Int) (hl : l.length <= 1000000000) : Pq 21 [.list 1 (ints l), .int .i64 n] (.bool (hasI l n)) := by
 refine yq Tryz.f21 [.tmp 4] 6 18 [] 0 ?_
 repeat' first
  | (refine yi ?_; refine a0e (σ := {i : Nat // i <= l.length /\ noI l n i}) (fun y => [(5, .int .i64 (y.1 : Int))]) [] (fun y => []) [] (fun y => []) (fun y => noH) (fun y => l.length - y.1) ⟨0, by simp, g7r l n⟩ yt ?_; rintro ⟨i, hi, hk⟩; simp only [lpS, LPXB]; (try dsimp only at hi hk); rcases a0c hi with hlt | ⟨hlt, rfl⟩; have wi := wli hlt ya; by_cases he : (l[i]'hlt) = n)
  | (refine ye ?_; refine a0b (⟨i + 1, by omega, g7q hk hlt he⟩) yt yf)
  | refine dz2 ?_
  | (refine stpK ?_; intro K hK)
  | (refine stpC ?_; intro T E hT hE)
  | (refine stp2 ?_ ?_ <;> intro h)
  | (refine yg ?_; clear hK K)
  | (refine yh ?_; clear hT hE T E)
  | simp [*, -List.all_flatten, -List.all_eq_true, yl]
 all_goals first
  | (rw [d9c hlt he]; done)
  | (simp [d9c hlt he]; done)
  | (rw [d9b hk]; done)
  | (simp [d9b hk]; done)
theorem d4z (a b : List Int) (ha : a.length <= 1000000000) : Pq 22 [.list 1 (ints a), .list 1 (ints b)] (.bool (decide (a = b))) := by
 by_cases hab : a.length = b.length
 all_goals
  refine yq Tryz.f22 [.tmp 4] 6 26 [] 0 ?_
  repeat' first
   | (refine yi ?_; refine a0e (σ := {i : Nat // i <= a.length /\ eqTo a b i}) (fun y => [(5, .int .i64 (y.1 : Int))]) [] (fun y => []) [] (fun y => []) (fun y => noH) (fun y => a.length - y.1) ⟨0, by simp, g3p a b⟩ yt ?_; rintro ⟨i, hi, hk⟩; simp only [lpS, LPXB]; (try dsimp only at hi hk); rcases a0c hi with hlt | ⟨hlt, rfl⟩; have hlt2 : i < b.length := ya; have wi := wli hlt ya; by_cases he : (a[i]'hlt) = (b[i]'hlt2))
   | (refine ye ?_; refine a0b (⟨i + 1, by omega, g3o hk hlt hlt2 he⟩) yt yf)
   | with_reducible first | refine a0n (id := 6) 9 a0d yc fun K hK => ?_ | refine dz2 ?_ | refine stpK ?_; intro K hK | refine stpC ?_; intro T E hT hE | refine stp2 ?_ ?_ <;> intro h | refine yg ?_; clear hK K | refine yh ?_; clear hT hE T E
   | simp [*, -List.all_flatten, -List.all_eq_true, yl, d7s]
  all_goals first
   | (have e := g7t hlt hlt2 he; simp [e]; done)
   | (have e := e7h hab hk; simp [e]; done)
   | (have e : ¬ a = b := fun e => hab (by rw [e]); simp [e]; done)
theorem c5g (n : Int) : Pq 157 [.int .i64 n] (.bool (alO n)) := by
 rcases c4v n with ⟨h1, h2⟩ | ⟨h1, h2, h3⟩ | ⟨h1, h2, h3, h4⟩ | ⟨h1, h2, h3, h4, h5⟩ | ⟨h1, h2, h3, h4, h5⟩
 all_goals
  refine yq Tryz.f157 [.tmp 2] 3 17 [] 0 ?_
  repeat' first
   | refine dz2 ?_
   | (refine stpK ?_; intro K hK)
   | (refine stpC ?_; intro T E hT hE)
   | (refine stp2 ?_ ?_ <;> intro h)
   | (refine yg ?_; clear hK K)
   | (refine yh ?_; clear hT hE T E)
   | simp [*, -List.all_flatten, -List.all_eq_true, DEFB]
  all_goals first
   | (simp [alO]; done)
@[simp] theorem g3i : fnOk Tp 58 = true /\ fnOk Tp 33 = true /\ fnOk Tp 108 = true /\ fnOk Tp 109 = true /\ fnOk Tp 132 = true := by and_intros <;> kernel_rfl
theorem c66 (p : Pg) (f : FnD) (x : Ins) (hc : f.code.length <= 2000000) (hf : p.fu.length <= 2000000) (hg : p.gl.length <= 2000000) (hl : p.la.length <= 2000000) : Pq 86 [PA p, .agg [.str f.name, .int .i64 f.params, .int .i64 f.regs, .list 5 (inss f.code)], .agg [.int .i64 x.op, .int .i64 x.a, .int .i64 x.b, .int .i64 x.c, .int .i64 x.d]] (.bool (a7t p f x)) := by
 by_cases ho : 1 <= x.op /\ x.op <= 52
 obtain ⟨⟨i1, i2, i3⟩, ⟨j1, j2, j3⟩, j4⟩ := c7w ho
 all_goals
  refine zw Tryz.f86 [.tmp 6] 8 89 [] ?_
  repeat' first
   | with_reducible first | refine wd ?_ | refine stpK ?_; intro K hK | refine stpC ?_; intro T E hT hE | refine stp2 ?_ ?_ <;> intro h | refine a0n (id := 2) 40 a0d yc fun K hK => ?_ | refine a1v (d1f _ ho) yr ?_ | refine hpc (d1f _ ho) yr ?_ | refine a1v (e1m _ ho) yr ?_ | refine hpc (e1m _ ho) yr ?_ | refine a1v (c114 p f x _ _ hc hf hg hl) yr ?_ | refine hpc (c114 p f x _ _ hc hf hg hl) yr ?_ | refine yg ?_; clear hK K | refine yh ?_; clear hT hE T E
   | simp [*, -List.all_flatten, -List.all_eq_true, DEFO, -Bool.decide_and, eqV, z1c, a0j, Ins.row, FnD.row, Gb.row, a0v, A1w]
  all_goals first
   | (simp_all [a7t]; done)
   | (rw [<- A2g]; intro hh; simp [a7t, *] at hh <;> omega)
end Go.Je
namespace Go.Gv
open Go Go.FM
variable {c : List Ins} {f i j k n : Nat} {l : List Bool} {o v : Int} {p : Pg} {x y : Pts}
structure Least (p : Pg) (x : Pts) : Prop where
 form : Form p x
 conds : a4i p x
 least : ∀ z, a4i p z -> z.sites = a0a p -> sub x z
theorem c3y (hx : Form p x) (hy : Form p y) (h : sub x y) : le x y := by
 refine ⟨h.1, by rw [hx.cn, hy.cn], by rw [hx.rn, hy.rn], fun f => ?_, fun f a o ho => a9e h f a o ho, fun c o ho => b6c h c o ho⟩
 rw [A5m, A5m]
 by_cases hf : f < p.fu.length
 . have h1 : f < x.regs.length := by rw [hx.rn]; exact hf
   have h2 : f < y.regs.length := by rw [hy.rn]; exact hf
   rw [A5n h1, A5n h2, A5z, A5z]
   have := hx.fn f h1 hf
   have := hy.fn f h2 hf
   omega
 . rw [A5y (l := x.regs) (by rw [hx.rn]; omega), A5y (l := y.regs) (by rw [hy.rn]; omega)]
theorem Least.unique (hx : Least p x) (hy : Least p y) : x = y :=
 le.anti hx.form hy.form (c3y hx.form hy.form (hx.least y hy.conds hy.form.sites)) (c3y hy.form hx.form (hy.least x hx.conds hx.form.sites))
theorem a8j : ∀ (b a : List Int), inc a -> inc b -> (∀ x ∈ a, x ∈ b) -> List.Sublist a b
 | [], a, _, _, h => by
   cases a with
   | nil => exact List.Sublist.refl _
   | cons d a => exact absurd (h d yd) yd
 | c :: b, [], _, _, _ => List.nil_sublist _
 | c :: b, d :: a, ha, hb, h => by
   obtain ⟨ha1, ha2⟩ := A3d.1 ha
   obtain ⟨hb1, hb2⟩ := A3d.1 hb
   by_cases e : d = c
   . subst e
     refine List.Sublist.cons_cons _ (a8j b a ha2 hb2 fun x hx => ?_)
     rcases A0m.1 (h x wo) with e | e
     . have := ha1 x hx; omega
     . exact e
   . have hd : d ∈ b := by
      rcases A0m.1 (h d yd) with e' | e'
      . exact absurd e' e
      . exact e'
     have hcd := hb1 d hd
     refine List.Sublist.cons _ (a8j b (d :: a) ha hb2 fun x hx => ?_)
     rcases A0m.1 (h x hx) with e' | e'
     . rcases A0m.1 hx with e2 | e2
       . exact absurd (e2.symm.trans e') e
       . have := ha1 x e2; omega
     . exact e'
theorem c0v : ∀ (a b : List (List Int)), a.length = b.length -> (∀ i (h : i < a.length) (h' : i < b.length), List.Sublist a[i] b[i]) -> lens a <= lens b /\ (lens a = lens b -> a = b)
 | [], [], _, _ => ⟨A5s _, fun _ => rfl⟩
 | [], _ :: _, h, _ => by simp at h
 | _ :: _, [], h, _ => by simp at h
 | a :: az, b :: bs, hl, h => by
   have h0 : List.Sublist a b := h 0 yd yd
   have ih := c0v az bs z1r fun i h1 h2 => h (i + 1) yz yz
   have hle := h0.length_le
   have e1 : lens (a :: az) = a.length + lens az := by simp [lens]
   have e2 : lens (b :: bs) = b.length + lens bs := by simp [lens]
   refine ⟨by omega, fun e => ?_⟩
   have := ih.1
   rw [h0.eq_of_length ya, ih.2 ya]
theorem c3x : ∀ (a b : List (List (List Int))), a.length = b.length -> (∀ i (h : i < a.length) (h' : i < b.length), lens a[i] <= lens b[i] /\ (lens a[i] = lens b[i] -> a[i] = b[i])) -> (a.map lens).sum <= (b.map lens).sum /\ ((a.map lens).sum = (b.map lens).sum -> a = b)
 | [], [], _, _ => ⟨A5s _, fun _ => rfl⟩
 | [], _ :: _, h, _ => by simp at h
 | _ :: _, [], h, _ => by simp at h
 | a :: az, b :: bs, hl, h => by
   have h0 : lens a <= lens b /\ (lens a = lens b -> a = b) := h 0 yd yd
   have ih := c3x az bs z1r fun i h1 h2 => h (i + 1) yz yz
   have e1 : ((a :: az).map lens).sum = lens a + (az.map lens).sum := by simp
   have e2 : ((b :: bs).map lens).sum = lens b + (bs.map lens).sum := by simp
   have := ih.1
   have := h0.1
   refine ⟨by omega, fun e => ?_⟩
   rw [h0.2 ya, ih.2 ya]
theorem e4l {a : Nat} (hf : f < x.regs.length) (ha : a < x.regs[f].length) : rg x f (a : Int) = x.regs[f][a] := by
 unfold rg
 rw [A5m, A5m, A5n hf, A5z, A5r, A5n ha, A5z]
theorem f6u {o : Nat} (ho : o < x.cells.length) : cl x (o : Int) = x.cells[o] := by
 unfold cl
 rw [A5m, A5r, A5n ho, A5z]
theorem f3e (hx : Form p x) (hy : Form p y) (h : le x y) : a9g x <= a9g y /\ (¬ x = y -> a9g x < a9g y) := by
 have hr := c3x x.regs y.regs (by rw [h.rn]) fun f h1 h2 => by
  have hl : x.regs[f].length = y.regs[f].length := by
   have := h.fn f
   rw [A5m, A5m, A5n h1, A5n h2] at this
   exact this.symm
  exact c0v _ _ hl fun a g1 g2 => by
   have := h.rs f (a : Int)
   rw [e4l h1 g1, e4l h2 g2] at this
   exact a8j _ _ (hx.rs f h1 _ (A5p g1)).1 (hy.rs f h2 _ (A5p g2)).1 this
 have hc := c0v x.cells y.cells (by rw [h.cn]) fun o g1 g2 => by
  have := h.cs (o : Int)
  rw [f6u g1, f6u g2] at this
  exact a8j _ _ (hx.cs _ (A5p g1)).1 (hy.cs _ (A5p g2)).1 this
 have h1 := hr.1
 have h2 := hc.1
 refine ⟨by unfold a9g; omega, fun hne => ?_⟩
 refine Nat.lt_of_le_of_ne (by unfold a9g; omega) fun e => hne ?_
 unfold a9g at e
 exact Pts.ext' h.sites.symm (hr.2 ya) (hc.2 ya)
structure Rnd (p : Pg) (x : Pts) : Prop where
 form : Form p x
 least : ∀ z, a4i p z -> z.sites = a0a p -> sub x z
theorem c3j (hp : VOk p) (hx : Form p x) : Form p (a8w p x) /\ le x (a8w p x) := (c1k hp p.fu.length (A5s _)).1 x hx
theorem Rnd.next (hp : VOk p) (h : Rnd p x) : Rnd p (a8w p x) :=
 ⟨(c3j hp h.form).1, fun z hz hs => d2t hp hz (h.least z hz hs)⟩
theorem Rnd.fin (hp : a0m p = true) (h : Rnd p x) (e : x = a8w p x) : Least p x := ⟨h.form, (e4v hp h.form).1 e.symm, h.least⟩
theorem Form.size (hp : VOk p) (h : Form p x) : a9g x <= (p.fu.length * 64 + (a0a p).length) * (a0a p).length := c8h h.shp fun f hf => (hp.regs hf).r64
def muR (p : Pg) (x : Pts) : Nat := (p.fu.length * 64 + (a0a p).length) * (a0a p).length - a9g x
theorem Rnd.mu (hp : VOk p) (h : Rnd p x) (e : ¬ x = a8w p x) : muR p (a8w p x) < muR p x := by
 have h1 := c3j hp h.form
 have := (f3e h.form h1.1 h1.2).2 e
 have := h1.1.size hp
 unfold muR; omega
def srt (l : List Int) : List Int := l.mergeSort fun a b => decide (a <= b)
theorem b6v {l : List Int} : o ∈ srt l ↔ o ∈ l := List.mem_mergeSort
theorem c5o : srt [] = [] := by simp [srt]
theorem a5y (l : List Int) : (srt l).length = l.length := List.length_mergeSort l
theorem f3c {l : List Int} (h : l.Nodup) : inc (srt l) := by
 have h1 : (srt l).Pairwise (fun a b => a <= b) := by
  have := List.pairwise_mergeSort (le := fun a b : Int => decide (a <= b)) (fun a b c h1 h2 => by simp only [A5w] at *; omega) (fun a b => by simp only [A2v, A5w]; omega) l
  exact this.imp fun h => by simpa using h
 have h2 : (srt l).Nodup := (A4g l _).nodup_iff.2 h
 have h3 := List.pairwise_and_iff.2 ⟨h1, h2⟩
 exact h3.imp fun ⟨h1, h2⟩ => by omega
def a6q (y : Pts) : Pts := ⟨y.sites, y.regs.map (·.map srt), y.cells.map srt⟩
theorem d6g (y : Pts) (f : Nat) (a : Int) : rg (a6q y) f a = srt (rg y f a) := by
 unfold rg a6q
 simp only [A5m, A1j]
 cases y.regs[f]? with
 | none => simp [c5o]
 | some r =>
   simp only [A0s, A5z, A1j]
   cases r[a.toNat]? <;> simp [c5o]
theorem e1d (y : Pts) (o : Int) : cl (a6q y) o = srt (cl y o) := by
 unfold cl a6q
 simp only [A5m, A1j]
 cases y.cells[o.toNat]? <;> simp [c5o]
theorem c0b (y : Pts) : sub (a6q y) y /\ sub y (a6q y) := by
 refine ⟨⟨rfl, fun t o ho => ?_⟩, ⟨rfl, fun t o ho => ?_⟩⟩
 . cases t with
   | r f a => have ho : o ∈ rg (a6q y) f (a : Int) := ho; rw [d6g] at ho; exact b6v.1 ho
   | c b => have ho : o ∈ cl (a6q y) (b : Int) := ho; rw [e1d] at ho; exact b6v.1 ho
 . cases t with
   | r f a => show o ∈ rg (a6q y) f (a : Int); rw [d6g]; exact b6v.2 ho
   | c b => show o ∈ cl (a6q y) (b : Int); rw [e1d]; exact b6v.2 ho
theorem c4k (hp : VOk p) (h : sub x y) (h' : sub y x) : a4i p x ↔ a4i p y := by
 have hr : ∀ f a o, o ∈ rg x f a ↔ o ∈ rg y f a := fun f a o => ⟨a9e h f a o, a9e h' f a o⟩
 have hc : ∀ c o, o ∈ cl x c ↔ o ∈ cl y c := fun c o => ⟨b6c h c o, b6c h' c o⟩
 have hf : ∀ o k, k ∈ a2q p x o ↔ k ∈ a2q p y o := fun o k => ⟨b2r hp h k, b2r hp h' k⟩
 have key : ∀ f pc n, a1x p f pc n x ↔ a1x p f pc n y := fun f pc n => by
  unfold a1x
  simp only [subR, hr, hc, hf]
 unfold a4i
 simp only [key]
theorem okA.srt {l : List Int} (h : okA n l) : okS n (srt l) := ⟨f3c h.1, fun x hx => h.2 x (b6v.1 hx)⟩
theorem d5k (h : Shp p y) : Form p (a6q y) := by
 refine ⟨h.sites, by simp [a6q, h.cn], by simp [a6q, h.rn], fun f h1 h2 => ?_, fun f h1 s hs => ?_, fun s hs => ?_⟩
 . have h3 : f < y.regs.length := by simpa [a6q] using h1
   have := h.fn f h3 h2
   simpa [a6q] using this
 . have h3 : f < y.regs.length := by simpa [a6q] using h1
   have hs : s ∈ y.regs[f].map Gv.srt := by simpa [a6q] using hs
   obtain ⟨t, ht, rfl⟩ := A1t.1 hs
   exact (h.rs f h3 t ht).srt
 . obtain ⟨t, ht, rfl⟩ := A1t.1 hs
   exact (h.cs t ht).srt
structure Crd (p : Pg) (y : Pts) : Prop where
 shp : Shp p y
 least : ∀ z, a4i p z -> z.sites = a0a p -> sub y z
theorem Crd.step {p : Pg} {y y' : Pts} {b' : Bool} (h : Crd p y) (hs : Shp p y') (ht : TR false (a4i p) (a4i p) y false y' b') : Crd p y' :=
 ⟨hs, fun z hz e => ht.least z hz (h.least z hz e)⟩
theorem Crd.fin (hp : VOk p) {y' : Pts} (h : Crd p y) (ht : TR false (a4i p) (a4i p) y false y' false) : y' = y /\ Least p (a6q y) := by
 obtain ⟨_, h1, h2⟩ := ht.good rfl
 refine ⟨h1, d5k h.shp, (c4k hp (c0b y).1 (c0b y).2).2 h2, fun z hz e => (c0b y).1.trans (h.least z hz e)⟩
theorem Crd.mu (hp : VOk p) {y' : Pts} (hs : Shp p y') (ht : TR false (a4i p) (a4i p) y false y' true) : muR p y' < muR p y := by
 rcases ht.prog rfl with ⟨_, h⟩ | ⟨h, _⟩
 . cases h
 . have := c8h hs fun f hf => (hp.regs hf).r64
   unfold muR; omega
def mk1 (l : List Bool) (o : Int) : List Bool := l.set o.toNat true
def mkL (l : List Bool) (s : List Int) : List Bool := s.foldl mk1 l
def isM (l : List Bool) (o : Int) : Prop := 0 <= o /\ l[o.toNat]? = some true
theorem b3l (l : List Bool) (o : Int) : (mk1 l o).length = l.length := by simp [mk1]
theorem a9o : ∀ (s : List Int) (l : List Bool), (mkL l s).length = l.length
 | [], _ => rfl
 | o :: s, l => by
   show (mkL (mk1 l o) s).length = _
   rw [a9o s, b3l]
theorem b9e (l : List Bool) (a b : List Int) : mkL l (a ++ b) = mkL (mkL l a) b := by simp [mkL, A0z]
theorem c0z (h0 : 0 <= o) (h1 : o < (l.length : Int)) : isM (mk1 l o) v ↔ isM l v \/ v = o := by
 unfold isM mk1
 rw [A3f]
 by_cases e : o.toNat = v.toNat
 . rw [if_pos e, if_pos ya]
   constructor
   . rintro ⟨h, _⟩; right; omega
   . rintro (h | h)
     . exact ⟨h.1, rfl⟩
     . exact ⟨by omega, rfl⟩
 . rw [if_neg e]
   constructor
   . exact .inl
   . rintro (h | h)
     . exact h
     . subst h; exact absurd rfl e
theorem isM_mkL {v : Int} : ∀ (s : List Int) (l : List Bool), (∀ o ∈ s, 0 <= o /\ o < (l.length : Int)) -> (isM (mkL l s) v ↔ isM l v \/ v ∈ s)
 | [], l, _ => by simp [mkL]
 | o :: s, l, h => by
   have h1 := h o yd
   have ih := isM_mkL (v := v) s (mk1 l o) fun a ha => by rw [b3l]; exact h a (by simp [ha])
   show isM (mkL (mk1 l o) s) v ↔ _
   rw [ih, c0z h1.1 h1.2, A0m, or_assoc]
theorem c3z (h : isM l o) : o < (l.length : Int) := by
 have := (A0q.1 h.2).1
 have := h.1
 omega
theorem b9h {o : Nat} (h : o < l.length) : isM l (o : Int) ↔ l[o] = true := by
 unfold isM
 rw [A5r, A5n h]
 simp
theorem d1i {a b : List Bool} (hl : a.length = b.length) (h : ∀ v, isM a v ↔ isM b v) : a = b := by
 refine A0e hl fun i h1 h2 => ?_
 have := h (i : Int)
 rw [b9h h1, b9h h2] at this
 exact A2n.2 this
def rtK (x : Pts) (f : Nat) (n : Ins) (k : Nat) : List Int := (List.range k).flatMap fun (i : Nat) => rg x f (n.c + i)
def rtI (p : Pg) (x : Pts) (f : Nat) (n : Ins) : List Int := if n.op = 31 then rtK x f n (a4d p.fu n.b).toNat else if n.op = 32 then rg x f n.a else []
def rtQ (p : Pg) (x : Pts) (f : Nat) (code : List Ins) (j : Nat) : List Int := (code.take j).flatMap (rtI p x f)
def rtP (p : Pg) (x : Pts) : Nat -> List Int
 | 0 => [0]
 | i + 1 => rtP p x i ++ (match p.fu[i]? with | some fn => rtQ p x i fn.code fn.code.length | none => [])
def rtA (p : Pg) (x : Pts) : List Int := rtP p x p.fu.length
theorem g6v (hx : Form p x) {n : Ins} : ∀ o ∈ rtK x f n k, 0 <= o /\ o < ((a0a p).length : Int) := fun o ho => by
 obtain ⟨i, _, h⟩ := A4q.1 ho
 exact hx.regB f _ o h
theorem g6w (hx : Form p x) {n : Ins} : ∀ o ∈ rtI p x f n, 0 <= o /\ o < ((a0a p).length : Int) := fun o ho => by
 unfold rtI at ho
 split at ho
 . exact g6v hx o ho
 . split at ho
   . exact hx.regB f _ o ho
   . cases ho
theorem g6u (hx : Form p x) {code : List Ins} : ∀ o ∈ rtQ p x f code j, 0 <= o /\ o < ((a0a p).length : Int) := fun o ho => by
 obtain ⟨n, _, h⟩ := A4q.1 ho
 exact g6w hx o h
theorem f3j {p : Pg} {x : Pts} (hx : Form p x) : ∀ i, ∀ o ∈ rtP p x i, 0 <= o /\ o < ((a0a p).length : Int)
 | 0, o, ho => by
   have := a5z p
   rw [rtP, A0d] at ho; subst ho; omega
 | i + 1, o, ho => by
   rw [rtP, A0o] at ho
   rcases ho with ho | ho
   . exact f3j hx i o ho
   . cases h : p.fu[i]? with
     | none => rw [h] at ho; cases ho
     | some fn => rw [h] at ho; exact g6u hx o ho
theorem d3v (p : Pg) (x : Pts) : ∀ i, (0 : Int) ∈ rtP p x i
 | 0 => by simp [rtP]
 | i + 1 => by rw [rtP, A0o]; exact .inl (d3v p x i)
theorem g1i {l : List Int} (h : okS n l) : l.length <= n := b3n h.1 h.2
inductive Rch (p : Pg) (x : Pts) : Int -> Prop
 | root {o : Int} : o ∈ rtA p x -> Rch p x o
 | cell {o v : Int} : Rch p x o -> v ∈ cl x o -> Rch p x v
theorem Rch.bd (hx : Form p x) (h : Rch p x o) : 0 <= o /\ o < ((a0a p).length : Int) := by
 induction h with
 | root h => exact f3j hx _ _ h
 | cell _ h => exact hx.cellB _ _ h
open Classical in
noncomputable def rchL (p : Pg) (x : Pts) : List Bool := (List.range (a0a p).length).map fun (o : Nat) => decide (Rch p x (o : Int))
theorem c8x (p : Pg) (x : Pts) : (rchL p x).length = (a0a p).length := by simp [rchL]
theorem e5u (hx : Form p x) : isM (rchL p x) o ↔ Rch p x o := by
 constructor
 . intro h
   have h1 := c3z h
   rw [c8x] at h1
   have h2 : o.toNat < (a0a p).length := by have := h.1; omega
   have h3 := h.2
   unfold rchL at h3
   rw [A1j, A4h h2] at h3
   have e : ((o.toNat : Nat) : Int) = o := by have := h.1; omega
   simp only [A0s, e, A5v, A5w] at h3
   exact h3
 . intro h
   obtain ⟨h0, h1⟩ := h.bd hx
   have h2 : o.toNat < (a0a p).length := by omega
   have e : ((o.toNat : Nat) : Int) = o := by omega
   refine ⟨h0, ?_⟩
   unfold rchL
   rw [A1j, A4h h2]
   simp [e, h]
theorem b1g (n : Nat) (o : Int) : ¬ isM (List.replicate n false) o := fun h => by
 have := h.2
 rw [A2o] at this
 split at this <;> simp at this
def wt (x : Pts) (l : List Bool) : Nat := ((List.range l.length).map fun (o : Nat) => if l[o]? = some true then 0 else (cl x (o : Int)).length + 1).sum
theorem d5g : ∀ (n : Nat) (f g : Nat -> Nat) (i : Nat), i < n -> (∀ j, j ≠ i -> g j = f j) -> ((List.range n).map g).sum + f i = ((List.range n).map f).sum + g i
 | 0, _, _, _, h, _ => by omega
 | n + 1, f, g, i, h, he => by
   rw [A1p, A1s, A1s, List.sum_append, List.sum_append]
   simp only [A1m, List.map_nil, List.sum_cons, List.sum_nil, A3h]
   by_cases e : i = n
   . subst e
     have : (List.range i).map g = (List.range i).map f := by
      refine A1f fun j hj => he j ?_
      rw [A2k] at hj; omega
     rw [this]; omega
   . have ih := d5g n f g i ya he
     have := he n ya
     omega
def stkK (p : Pg) (x : Pts) : Nat := (rtA p x).length + wt x (List.replicate (a0a p).length false)
structure Dfs (p : Pg) (x : Pts) (l : List Bool) (sk : List Int) : Prop where
 len : l.length = (a0a p).length
 st : ∀ o ∈ sk, Rch p x o
 mkd : ∀ o, isM l o -> Rch p x o
 rt : ∀ o ∈ rtA p x, isM l o \/ o ∈ sk
 cs : ∀ o, isM l o -> ∀ v ∈ cl x o, isM l v \/ v ∈ sk
 bd : sk.length + wt x l <= stkK p x
theorem Dfs.init (p : Pg) (x : Pts) : Dfs p x (List.replicate (a0a p).length false) (rtA p x) :=
 ⟨by simp, fun _ h => .root h, fun o h => absurd h (b1g _ o), fun _ h => .inr h, fun o h => absurd h (b1g _ o), A5s _⟩
theorem c4l (hx : Form p x) (hl : l.length = (a0a p).length) (hm : ∀ o, isM l o -> Rch p x o) (hr : ∀ o ∈ rtA p x, isM l o) (hc : ∀ o, isM l o -> ∀ v ∈ cl x o, isM l v) : l = rchL p x := by
 refine d1i (by rw [hl, c8x]) fun v => ?_
 rw [e5u hx]
 refine ⟨hm v, fun h => ?_⟩
 induction h with
 | root h => exact hr _ h
 | cell _ h ih => exact hc _ ih _ h
theorem Dfs.fin (hx : Form p x) (h : Dfs p x l []) : l = rchL p x :=
 c4l hx h.len h.mkd (fun o ho => (h.rt o ho).resolve_right yd) fun o ho v hv => (h.cs o ho v hv).resolve_right yd
def rdS (x : Pts) (l : List Bool) (k : Nat) : List Bool := (List.range k).foldl (fun l (o : Nat) => if l[o]? = some true then mkL l (cl x (o : Int)) else l) l
theorem d6q (x : Pts) (l : List Bool) (k : Nat) : rdS x l (k + 1) = if (rdS x l k)[k]? = some true then mkL (rdS x l k) (cl x (k : Int)) else rdS x l k := by
 unfold rdS
 rw [A1p, A0z]
 rfl
theorem b1h (x : Pts) (l : List Bool) : ∀ k, (rdS x l k).length = l.length
 | 0 => rfl
 | k + 1 => by
   rw [d6q]
   split
   . rw [a9o]; exact b1h x l k
   . exact b1h x l k
theorem g0p (hx : Form p x) (hl : l.length = (a0a p).length) (k : Nat) (h : isM (rdS x l k) v) : isM (rdS x l (k + 1)) v := by
 rw [d6q]
 split
 . exact (isM_mkL _ _ fun o ho => by rw [b1h, hl]; exact hx.cellB _ o ho).2 (.inl h)
 . exact h
theorem b5g {p : Pg} {x : Pts} (hx : Form p x) {l : List Bool} (hl : l.length = (a0a p).length) {v : Int} (j : Nat) : ∀ k, j <= k -> isM (rdS x l j) v -> isM (rdS x l k) v
 | 0, hk, h => by rw [A4l.1 hk] at h; exact h
 | k + 1, hk, h => by
   by_cases e : j = k + 1
   . rw [<- e]; exact h
   . exact g0p hx hl k (b5g hx hl j k ya h)
theorem g0q {p : Pg} {x : Pts} (hx : Form p x) {l : List Bool} (hl : l.length = (a0a p).length) (hm : ∀ o, isM l o -> Rch p x o) : ∀ k v, isM (rdS x l k) v -> Rch p x v
 | 0, v, h => hm v h
 | k + 1, v, h => by
   have ih := g0q hx hl hm k
   rw [d6q] at h
   split at h
   . rename_i hk
     rcases (isM_mkL _ _ fun o ho => by rw [b1h, hl]; exact hx.cellB _ o ho).1 h with h | h
     . exact ih v h
     . exact .cell (ih (k : Int) ⟨by omega, by simpa using hk⟩) h
   . exact ih v h
def Cls (x : Pts) (l : List Bool) : Prop := ∀ o, isM l o -> ∀ v ∈ cl x o, isM l v
theorem d6r {p : Pg} {x : Pts} (hx : Form p x) {l : List Bool} (hl : l.length = (a0a p).length) (h : Cls x l) : ∀ k, rdS x l k = l
 | 0 => rfl
 | k + 1 => by
   rw [d6q, d6r hx hl h k]
   split
   . rename_i hk
     refine d1i (a9o _ _) fun v => ?_
     rw [isM_mkL _ _ fun o ho => by rw [hl]; exact hx.cellB _ o ho]
     exact ⟨fun hv => by
      rcases hv with hv | hv
      . exact hv
      . exact h (k : Int) ⟨by omega, by simpa using hk⟩ v hv, .inl⟩
   . rfl
theorem f6t (hx : Form p x) (hl : l.length = (a0a p).length) (h : rdS x l l.length = l) : Cls x l := fun o ho v hv => by
 have h1 := c3z ho
 have e : ((o.toNat : Nat) : Int) = o := by have := ho.1; omega
 have h2 : isM (rdS x l o.toNat) o := b5g hx hl 0 o.toNat ya ho
 have h3 : isM (rdS x l (o.toNat + 1)) v := by
  rw [d6q, if_pos h2.2, e]
  exact (isM_mkL _ _ fun a ha => by rw [b1h, hl]; exact hx.cellB _ a ha).2 (.inr hv)
 have h4 := b5g hx hl (o.toNat + 1) l.length (by have := ho.1; omega) h3
 rw [h] at h4
 exact h4
theorem e0y : ∀ (a b : List Bool), a.length = b.length -> (∀ i (h : i < a.length) (h' : i < b.length), a[i] = true -> b[i] = true) -> a.count true <= b.count true /\ (a.count true = b.count true -> a = b)
 | [], [], _, _ => ⟨A5s _, fun _ => rfl⟩
 | [], _ :: _, h, _ => by simp at h
 | _ :: _, [], h, _ => by simp at h
 | a :: az, b :: bs, hl, h => by
   have h0 : a = true -> b = true := h 0 yd yd
   have ih := e0y az bs z1r fun i h1 h2 => h (i + 1) yz yz
   have h1 := ih.1
   rw [A4o, A4o]
   cases a <;> cases b
   . simp
     exact ⟨h1, fun e => ih.2 e⟩
   . simp
     exact ⟨by omega, fun e => by omega⟩
   . exact absurd (h0 rfl) yd
   . simp only [beq_self_eq_true, if_true]
     exact ⟨by omega, fun e => by rw [ih.2 ya]⟩
structure Rds (p : Pg) (x : Pts) (l : List Bool) (r : Nat) : Prop where
 len : l.length = (a0a p).length
 mkd : ∀ o, isM l o -> Rch p x o
 rt : ∀ o ∈ rtA p x, isM l o
 go : Cls x l \/ r + 1 <= l.count true
def l0R (p : Pg) (x : Pts) : List Bool := mkL (List.replicate (a0a p).length false) (rtA p x)
theorem Rds.init (hx : Form p x) : Rds p x (l0R p x) 0 := by
 have hi : ∀ v, isM (l0R p x) v ↔ v ∈ rtA p x := fun v => by
  unfold l0R
  rw [isM_mkL _ _ fun o ho => by rw [A0u]; exact f3j hx _ o ho]
  exact ⟨fun h => h.resolve_left (b1g _ v), .inr⟩
 refine ⟨by rw [l0R, a9o, A0u], fun o h => .root ((hi o).1 h), fun o h => (hi o).2 h, .inr ?_⟩
 have h0 := ((hi 0).2 (d3v p x _)).2
 exact List.count_pos_iff.2 (A1b h0)
theorem Rds.next (hx : Form p x) {r : Nat} (h : Rds p x l r) : Rds p x (rdS x l l.length) (r + 1) := by
 have hup : ∀ v, isM l v -> isM (rdS x l l.length) v := fun v hv => b5g hx h.len 0 l.length ya hv
 refine ⟨by rw [b1h]; exact h.len, g0q hx h.len h.mkd _, fun o ho => hup o (h.rt o ho), ?_⟩
 rcases h.go with hc | hc
 . rw [d6r hx h.len hc]; exact .inl hc
 . have hs := e0y l (rdS x l l.length) (b1h x l l.length).symm fun i h1 h2 hi => (b9h h2).1 (hup _ ((b9h h1).2 hi))
   by_cases e : l.count true = (rdS x l l.length).count true
   . have e2 := hs.2 e
     rw [<- e2]
     exact .inl (f6t hx h.len e2.symm)
   . exact .inr ya
theorem Rds.fin (hx : Form p x) (h : Rds p x l (a0a p).length) : l = rchL p x := by
 refine c4l hx h.len h.mkd h.rt ?_
 rcases h.go with hc | hc
 . exact hc
 . have := List.count_le_length (a := true) (l := l)
   rw [h.len] at this
   omega
theorem c8n {p : Pg} {x z : Pts} (h : sub x z) : ∀ i, ∀ o ∈ rtP p x i, o ∈ rtP p z i
 | 0, o, ho => ho
 | i + 1, o, ho => by
   rw [rtP, A0o] at ho ⊢
   rcases ho with ho | ho
   . exact .inl (c8n h i o ho)
   . right
     cases hq : p.fu[i]? with
     | none => rw [hq] at ho; exact ho
     | some fn =>
       rw [hq] at ho
       obtain ⟨n, hn, h2⟩ := A4q.1 ho
       refine A4q.2 ⟨n, hn, ?_⟩
       unfold rtI at h2 ⊢
       split at h2
       . rename_i e
         rw [if_pos e]
         obtain ⟨k, hk, h3⟩ := A4q.1 h2
         exact A4q.2 ⟨k, hk, a9e h i _ o h3⟩
       . rename_i e
         rw [if_neg e]
         split at h2
         . rename_i e2
           rw [if_pos e2]; exact a9e h i _ o h2
         . cases h2
theorem Rch.mono {z : Pts} (h : sub x z) (hr : Rch p x o) : Rch p z o := by
 induction hr with
 | root hr => exact .root (c8n h _ _ hr)
 | cell _ hv ih => exact .cell ih (b6c h _ _ hv)
def p1 : Pg := ⟨[⟨⟨⟨[109, 97, 105, 110]⟩⟩, 0, 2, [⟨21, 0, 0, 0, 0⟩, ⟨21, 1, 0, 0, 0⟩, ⟨31, 0, 1, 0, 0⟩, ⟨30, -1, 0, 0, 0⟩]⟩, ⟨⟨⟨[102]⟩⟩, 1, 1, [⟨30, -1, 0, 0, 0⟩]⟩], [], [[0]], 0⟩
def x1 : Pts := ⟨[(0, 0), (0, 0), (0, 1)], [[[1], [2]], [[1]]], [[], [], []]⟩
def eAtF : List Ins -> Int -> Nat -> Int
 | _, e, 0 => e
 | [], e, _ + 1 => e
 | x :: r, e, i + 1 => eAtF r (if x.op = 50 then x.b else if 0 < e then e - 1 else e) i
theorem f0v : ∀ (l : List Ins) (e : Int) (i : Nat) (h : i < l.length), eAtF l e (i + 1) = if l[i].op = 50 then l[i].b else if 0 < eAtF l e i then eAtF l e i - 1 else eAtF l e i
 | [], _, _, h => by cases h
 | x :: r, e, 0, _ => by cases r <;> rfl
 | x :: r, e, i + 1, h => by
   show eAtF r _ (i + 1) = _
   rw [f0v r _ i zl]
   rfl
theorem d7v {p : Pg} {f : FnD} : ∀ (l : List Ins) (e : Int), 0 <= e -> e <= 8 -> b1l p f l e = true -> ∀ i (h : i < l.length), a7t p f l[i] = true /\ (0 < eAtF l e i ↔ l[i].op = 51) /\ 0 <= eAtF l e i /\ eAtF l e i <= 8
 | [], _, _, _, _, _, h => by cases h
 | x :: r, e, h0, h8, hl, i, h => by
   simp only [b1l] at hl
   split at hl
   case isFalse => cases hl
   rename_i he
   simp only [A5t] at hl
   cases i with
   | zero => exact ⟨hl.1, by simpa [eAtF] using he, h0, h8⟩
   | succ i =>
     have hx := e5w hl.1
     have hb : x.op = 50 -> 0 <= x.b /\ x.b <= 8 := fun e5 => by
      have := hx.b
      rw [e5] at this
      simpa [opR, rR] using this
     have e1 : (if x.op = 50 then x.b else if 0 < e then W (e - 1) else e) = (if x.op = 50 then x.b else if 0 < e then e - 1 else e) := by
      rw [W_id ya ya]
     rw [e1] at hl
     refine d7v r _ ?_ ?_ hl.2 i zl
     . split
       . rename_i e5; exact (hb e5).1
       . split <;> omega
     . split
       . rename_i e5; exact (hb e5).2
       . split <;> omega
structure CodeOk (c : List Ins) : Prop where
 ne : 0 < c.length
 n1000 : c.length <= 1000
 h0 : ∀ h : 0 < c.length, c[0].op ≠ 51
 la : ∀ i (h : i < c.length), i + 1 = c.length -> c[i].op = 30 \/ c[i].op = 16
 fall : ∀ i (h : i + 1 < c.length), c[i].op ≠ 50 -> c[i].op ≠ 51 -> c[i + 1].op ≠ 51
 sel : ∀ i (h : i < c.length), c[i].op = 50 -> (0 <= c[i].b /\ c[i].b <= 8) /\ (∀ k : Nat, (k : Int) < c[i].b -> ∃ h : i + 1 + k < c.length, c[i + 1 + k].op = 51) /\ ∃ h : i + 1 + c[i].b.toNat < c.length, c[i + 1 + c[i].b.toNat].op ≠ 51
 cas : ∀ i (h : i < c.length), c[i].op = 51 -> ∃ j, ∃ hj : j < i, c[j].op = 50 /\ (i : Int) <= j + c[j].b /\ ∀ k (hk : k < c.length), j < k -> k <= i -> c[k].op = 51
 tgt : ∀ i (h : i < c.length), c[i].op = 16 \/ c[i].op = 17 \/ c[i].op = 45 -> 0 <= c[i].c /\ ∃ h : c[i].c.toNat < c.length, c[c[i].c.toNat].op ≠ 51
theorem g3x (hv : a0m p = true) {f : FnD} (hf : f ∈ p.fu) : CodeOk f.code := by
 have hp := vOk hv
 obtain ⟨h1, h2, h3, h4⟩ := hp.regs hf
 have hh := hp.head f hf
 have hR : b1l p f f.code 0 = true := by
  simp only [a0m, A5t] at hv
  have := List.all_eq_true.1 hv.2.2.1 f hf
  simp only [fnR, A5t] at this
  exact this.2
 have hne : 0 < f.code.length := by
  simp only [a8y, A5t] at hh
  have := hh.1.1.2
  simp at this
  exact List.length_pos_iff.2 this
 have hla : ∀ i (h : i < f.code.length), i + 1 = f.code.length -> f.code[i].op = 30 \/ f.code[i].op = 16 := fun i h e => by
  simp only [a8y, A5t, a8s, A2v, A5w] at hh
  have e1 : ((f.code.length : Int) - 1).toNat = i := by omega
  have := hh.2
  rw [b0e _ _ ya] at this
  simp only [e1] at this
  exact this
 have L := d7v f.code 0 ya ya hR
 have S := f0v f.code 0
 generalize hE : eAtF f.code 0 = E at L S
 have hE0 : E 0 = 0 := by rw [<- hE]; cases f.code <;> rfl
 have hsel : ∀ i (h : i < f.code.length), f.code[i].op = 50 -> ∀ k : Nat, (k : Int) <= f.code[i].b -> ∃ h : i + 1 + k < f.code.length, E (i + 1 + k) = f.code[i].b - k := fun i h e k => by
  induction k with
  | zero =>
    intro _
    have h1 : i + 1 < f.code.length := by
     rcases A0r (i + 1) f.code.length with h1 | h1
     . exact h1
     . have := hla i h ya; omega
    refine ⟨h1, ?_⟩
    have := S i h
    rw [if_pos e] at this
    simpa using this
  | succ k ih =>
    intro hk
    obtain ⟨h1, h2⟩ := ih ya
    have h5 := (L _ h1).2.1.1 ya
    have h3 : i + 1 + k + 1 < f.code.length := by
     rcases A0r (i + 1 + k + 1) f.code.length with h3 | h3
     . exact h3
     . have := hla _ h1 ya; omega
    refine ⟨h3, ?_⟩
    have := S _ h1
    rw [if_neg ya, if_pos ya] at this
    show E (i + 1 + k + 1) = _
    rw [this, h2]; omega
 have hb : ∀ i (h : i < f.code.length), f.code[i].op = 50 -> 0 <= f.code[i].b /\ f.code[i].b <= 8 := fun i h e => by
  have := (e5w (L i h).1).b
  rw [e] at this
  simpa [opR, rR] using this
 refine ⟨hne, h4, fun h => ?_, hla, fun i h n50 n51 => ?_, fun i h e => ⟨hb i h e, fun k hk => ?_, ?_⟩, fun i h e => ?_, fun i h e => ?_⟩
 . intro e
   have := (L 0 h).2.1.2 e
   omega
 . intro e
   have h1 := (L _ h).2.1.2 e
   have h2 := S i ya
   have h3 := mt (L i ya).2.1.1 n51
   rw [if_neg n50, if_neg h3] at h2
   omega
 . obtain ⟨h1, h2⟩ := hsel i h e k ya
   exact ⟨h1, (L _ h1).2.1.1 ya⟩
 . have := hb i h e
   obtain ⟨h1, h2⟩ := hsel i h e f.code[i].b.toNat ya
   refine ⟨h1, fun e2 => ?_⟩
   have := (L _ h1).2.1.2 e2
   omega
 . induction i with
   | zero => have := (L 0 h).2.1.2 e; omega
   | succ i ih =>
     have h1 := (L _ h).2.1.2 e
     have h2 := S i ya
     by_cases e5 : f.code[i].op = 50
     . rw [if_pos e5] at h2
       refine ⟨i, by omega, e5, by omega, fun k hk a b => ?_⟩
       have : k = i + 1 := by omega
       subst this; exact e
     . rw [if_neg e5] at h2
       have h3 : 0 < E i := by split at h2 <;> omega
       rw [if_pos h3] at h2
       obtain ⟨j, hj, g1, g2, g3⟩ := ih ya ((L i ya).2.1.1 h3)
       obtain ⟨g4, g5⟩ := hsel j ya g1 (i - j - 1) ya
       have g6 : j + 1 + (i - j - 1) = i := by omega
       rw [g6] at g5
       refine ⟨j, by omega, g1, by omega, fun k hk a b => ?_⟩
       by_cases ek : k = i + 1
       . subst ek; exact e
       . exact g3 k hk a ya
 . have := (e5w (L i h).1).c
   have hr : (rR f.code[i].op).2.2 = 106 := by rcases e with e | e | e <;> rw [e] <;> rfl
   rw [hr] at this
   simp only [opR] at this
   simp at this
   have h1 : f.code[i].c.toNat < f.code.length := by omega
   rw [b0e _ _ h1] at this
   exact ⟨by omega, h1, by simpa using this.2⟩
def nx (c : List Ins) (i : Nat) : List Int := match c[i]? with
 | none => []
 | some n => if n.op = 30 \/ n.op = 51 then [] else if n.op = 16 then [n.c] else if n.op = 17 \/ n.op = 45 then a0r [(i : Int) + 1] n.c else if n.op = 50 then [(i : Int) + 1 + n.b] else [(i : Int) + 1]
theorem c5v (h : i < c.length) : nx c i = if c[i].op = 30 \/ c[i].op = 51 then [] else if c[i].op = 16 then [c[i].c] else if c[i].op = 17 \/ c[i].op = 45 then a0r [(i : Int) + 1] c[i].c else if c[i].op = 50 then [(i : Int) + 1 + c[i].b] else [(i : Int) + 1] := by
 unfold nx
 rw [A5n h]
theorem c3t {a b : Int} : v ∈ a0r [a] b ↔ v = a \/ v = b := by
 rw [c0s]; simp
theorem a7e (hc : CodeOk c) (h : v ∈ nx c i) : 0 <= v /\ ∃ hv : v.toNat < c.length, c[v.toNat].op ≠ 51 := by
 unfold nx at h
 split at h
 . cases h
 rename_i n hn
 obtain ⟨hi, rfl⟩ := A0q.1 hn
 have nxt : c[i].op ≠ 30 -> c[i].op ≠ 16 -> c[i].op ≠ 50 -> c[i].op ≠ 51 -> 0 <= (i : Int) + 1 /\ ∃ hv : ((i : Int) + 1).toNat < c.length, c[((i : Int) + 1).toNat].op ≠ 51 := fun n1 n2 n3 n4 => by
  have h1 : i + 1 < c.length := by
   rcases A0r (i + 1) c.length with h1 | h1
   . exact h1
   . have := hc.la i hi ya; omega
  refine ⟨by omega, by omega, ?_⟩
  have e : ((i : Int) + 1).toNat = i + 1 := by omega
  simp only [e]
  exact hc.fall i h1 n3 n4
 split at h
 . cases h
 split at h
 . rename_i e
   rw [A0d] at h; subst h
   exact hc.tgt i hi (.inl e)
 split at h
 . rename_i e
   rcases c3t.1 h with h | h
   . subst h
     exact nxt ya ya ya ya
   . subst h
     exact hc.tgt i hi ya
 split at h
 . rename_i e
   rw [A0d] at h; subst h
   obtain ⟨h1, _, h2, h3⟩ := hc.sel i hi e
   have e2 : ((i : Int) + 1 + c[i].b).toNat = i + 1 + c[i].b.toNat := by omega
   refine ⟨by omega, by omega, ?_⟩
   simp only [e2]
   exact h3
 . rw [A0d] at h; subst h
   exact nxt ya ya ya ya
inductive Rc (c : List Ins) : Nat -> Prop
 | zero : 0 < c.length -> Rc c 0
 | step {i : Nat} {v : Int} : Rc c i -> v ∈ nx c i -> Rc c v.toNat
theorem Rc.lt (hc : CodeOk c) (h : Rc c i) : i < c.length := by
 cases h with
 | zero h => exact h
 | step _ h => exact (a7e hc h).2.1
theorem Rc.op (hc : CodeOk c) (h : Rc c i) (hi : i < c.length) : c[i].op ≠ 51 := by
 cases h with
 | zero h => exact hc.h0 h
 | step _ h => exact (a7e hc h).2.2
def hd (c : List Ins) : Nat -> Nat
 | 0 => 0
 | i + 1 => if opAt c ((i + 1 : Nat) : Int) = 51 then hd c i else i + 1
theorem b2o (c : List Ins) : ∀ i, hd c i <= i
 | 0 => A5s _
 | i + 1 => by
   unfold hd
   split
   . have := b2o c i; omega
   . exact A5s _
theorem a5o (h : i < c.length) (e : c[i].op ≠ 51) : hd c i = i := by
 cases i with
 | zero => rfl
 | succ i =>
   unfold hd
   rw [b0e _ _ ya, if_neg]
   simpa using e
theorem hd_s (h : i + 1 < c.length) (e : c[i + 1].op = 51) : hd c (i + 1) = hd c i := by
 conv => lhs; unfold hd
 rw [b0e _ _ ya, if_pos]
 simpa using e
theorem d3e {c : List Ins} (hc : CodeOk c) : ∀ i (h : i < c.length) (h' : hd c i < c.length), c[hd c i].op ≠ 51
 | 0, h, _ => hc.h0 h
 | i + 1, h, h' => by
   by_cases e : c[i + 1].op = 51
   . have := d3e hc i ya (by rw [<- hd_s h e]; exact h')
     simpa only [hd_s h e] using this
   . simpa only [a5o h e] using e
open Classical in
noncomputable def rcL (c : List Ins) : List Bool := (List.range c.length).map fun i => decide (Rc c i)
open Classical in
noncomputable def a2d (c : List Ins) : List Bool := (List.range c.length).map fun i => decide (Rc c (hd c i))
theorem a9k (c : List Ins) : (rcL c).length = c.length := by simp [rcL]
theorem a4w (c : List Ins) : (a2d c).length = c.length := by simp [a2d]
theorem d6s (h : i < (rcL c).length) : (rcL c)[i] = true ↔ Rc c i := by simp [rcL]
theorem a7o (h : i < (a2d c).length) : (a2d c)[i] = true ↔ Rc c (hd c i) := by simp [a2d]
theorem f5l (hc : CodeOk c) : isM (rcL c) o ↔ 0 <= o /\ Rc c o.toNat := by
 constructor
 . intro h
   have h1 := c3z h
   refine ⟨h.1, ?_⟩
   have h2 : o.toNat < (rcL c).length := by have := h.1; omega
   have e : ((o.toNat : Nat) : Int) = o := by have := h.1; omega
   rw [<- e, b9h h2] at h
   exact (d6s h2).1 h
 . rintro ⟨h0, h⟩
   have h2 : o.toNat < (rcL c).length := by rw [a9k]; exact h.lt hc
   have e : ((o.toNat : Nat) : Int) = o := by omega
   rw [<- e, b9h h2]
   exact (d6s h2).2 h
theorem g0t (hc : CodeOk c) (hl : l.length = c.length) (h0 : isM l 0) (hm : ∀ o, isM l o -> Rc c o.toNat) (hs : ∀ o, isM l o -> ∀ v ∈ nx c o.toNat, isM l v) : l = rcL c := by
 refine d1i (by rw [hl, a9k]) fun v => ?_
 rw [f5l hc]
 refine ⟨fun h => ⟨h.1, hm v h⟩, ?_⟩
 rintro ⟨h, hr⟩
 have key : ∀ i, Rc c i -> isM l (i : Int) := fun i hi => by
  induction hi with
  | zero => exact h0
  | @step i v _ hv ih =>
    have := hs _ ih v (by simpa using hv)
    have e : ((v.toNat : Nat) : Int) = v := by have := (a7e hc hv).1; omega
    rw [e]; exact this
 have := key _ hr
 have e : ((v.toNat : Nat) : Int) = v := by omega
 rwa [e] at this
def psh (s : List Bool × List Int) (v : Int) : List Bool × List Int := if s.1[v.toNat]? = some true then s else (mk1 s.1 v, s.2 ++ [v])
def pshs (l : List Bool) (st : List Int) (s : List Int) : List Bool × List Int := s.foldl psh (l, st)
theorem c9b (l : List Bool) (st : List Int) : pshs l st [] = (l, st) := rfl
theorem c3i (l : List Bool) (st s : List Int) (v : Int) : pshs l st (s ++ [v]) = psh (pshs l st s) v := by simp [pshs, A0z]
theorem d7a (l : List Bool) (st : List Int) {s : List Int} (h : k < s.length) : pshs l st (s.take (k + 1)) = psh (pshs l st (s.take k)) s[k] := by
 rw [A0n h, c3i]
def wtV (s : List Bool × List Int) : Nat := 2 * s.1.count false + s.2.length
theorem e1f (h0 : 0 <= v) (h1 : v < (l.length : Int)) (h : ¬ l[v.toNat]? = some true) : (mk1 l v).count false + 1 = l.count false := by
 have h2 : v.toNat < l.length := by omega
 have h3 : l[v.toNat] = false := by
  rw [A5n h2] at h
  simpa using h
 have : ∀ (l : List Bool) (i : Nat) (hi : i < l.length), l[i] = false -> (l.set i true).count false + 1 = l.count false := by
  intro l
  induction l with
  | nil => intro i hi; cases hi
  | cons b r ih =>
    intro i hi e
    cases i with
    | zero =>
      simp only [A4u] at e
      subst e
      rw [List.set_cons_zero, A4o, A4o]
      simp
    | succ i =>
      rw [List.set_cons_succ, A4o, A4o]
      have := ih i (by simpa using hi) z1p
      omega
 exact this l _ h2 h3
structure Ps (l : List Bool) (st s : List Int) (r : List Bool × List Int) : Prop where
 len : r.1.length = l.length
 mem : ∀ v, isM r.1 v ↔ isM l v \/ v ∈ s
 stk : ∀ v, v ∈ r.2 ↔ v ∈ st \/ (v ∈ s /\ ¬ isM l v)
 wt : wtV r <= wtV (l, st)
theorem g1b (l : List Bool) (st : List Int) : ∀ (s : List Int), (∀ o ∈ s, 0 <= o /\ o < (l.length : Int)) -> Ps l st s (pshs l st s) := by
 intro s
 induction hn : s.length generalizing s with
 | zero =>
   intro _
   have : s = [] := List.length_eq_zero_iff.1 hn
   subst this
   exact ⟨rfl, by simp [c9b], by simp [c9b], A5s _⟩
 | succ n ih =>
   intro hs
   obtain ⟨t, v, rfl⟩ : ∃ t v, s = t ++ [v] := ⟨s.dropLast, s.getLast (by intro e; subst e; cases hn), (List.dropLast_concat_getLast _).symm⟩
   have hI := ih t (by simpa using hn) fun o ho => hs o (by simp [ho])
   have hv := hs v yd
   rw [c3i]
   unfold psh
   split
   . rename_i hm
     have hm2 : isM (pshs l st t).1 v := ⟨hv.1, hm⟩
     have h3 := (hI.mem v).1 hm2
     refine ⟨hI.len, fun w => ?_, fun w => ?_, hI.wt⟩
     . rw [hI.mem w, A0o, A0d]
       constructor
       . rintro (h | h)
         . exact .inl h
         . exact .inr (.inl h)
       . rintro (h | h | h)
         . exact .inl h
         . exact .inr h
         . subst h; exact h3
     . rw [hI.stk w, A0o, A0d]
       constructor
       . rintro (h | ⟨h, h'⟩)
         . exact .inl h
         . exact .inr ⟨.inl h, h'⟩
       . rintro (h | ⟨h | h, h'⟩)
         . exact .inl h
         . exact .inr ⟨h, h'⟩
         . subst h
           exact .inr ⟨h3.resolve_left h', h'⟩
   . rename_i hm
     have hb : v < ((pshs l st t).1.length : Int) := by rw [hI.len]; exact hv.2
     have hnm : ¬ isM (pshs l st t).1 v := fun h => hm h.2
     have hnl : ¬ isM l v := fun h => hnm ((hI.mem v).2 (.inl h))
     refine ⟨by rw [b3l, hI.len], fun w => ?_, fun w => ?_, ?_⟩
     . rw [c0z hv.1 hb, hI.mem w, A0o, A0d, or_assoc]
     . rw [A0o, A0d, hI.stk w, A0o, A0d]
       constructor
       . rintro ((h | ⟨h, h'⟩) | h)
         . exact .inl h
         . exact .inr ⟨.inl h, h'⟩
         . subst h; exact .inr ⟨.inr rfl, hnl⟩
       . rintro (h | ⟨h | h, h'⟩)
         . exact .inl (.inl h)
         . exact .inl (.inr ⟨h, h'⟩)
         . exact .inr h
     . have h1 := hI.wt
       have h2 := e1f hv.1 hb hm
       unfold wtV at h1 ⊢
       rw [A0b, A1x]
       simp only at h1 ⊢
       omega
structure Vst (c : List Ins) (l : List Bool) (st : List Int) : Prop where
 len : l.length = c.length
 stk : ∀ o ∈ st, isM l o
 mkd : ∀ o, isM l o -> Rc c o.toNat
 h0 : isM l 0
 cs : ∀ o, isM l o -> o ∈ st \/ ∀ v ∈ nx c o.toNat, isM l v
theorem Vst.init (hc : CodeOk c) : Vst c (mk1 (List.replicate c.length false) 0) [0] := by
 have hi : ∀ v, isM (mk1 (List.replicate c.length false) 0) v ↔ v = 0 := fun v => by
  rw [c0z ya (by have := hc.ne; simp; omega)]
  exact ⟨fun h => h.resolve_left (b1g _ v), .inr⟩
 refine ⟨by rw [b3l, A0u], fun o ho => (hi o).2 (by simpa using ho), fun o ho => ?_, (hi 0).2 rfl, fun o ho => .inl ?_⟩
 . rw [(hi o).1 ho]; exact .zero hc.ne
 . rw [(hi o).1 ho]; simp
theorem Vst.pop (hc : CodeOk c) {st : List Int} (h : Vst c l (st ++ [o])) : Vst c (pshs l st (nx c o.toNat)).1 (pshs l st (nx c o.toNat)).2 /\ wtV (pshs l st (nx c o.toNat)) < wtV (l, st ++ [o]) := by
 have ho := h.stk o yd
 have hb : ∀ v ∈ nx c o.toNat, 0 <= v /\ v < (l.length : Int) := fun v hv => by
  obtain ⟨h1, h2, _⟩ := a7e hc hv
  rw [h.len]; omega
 have P := g1b l st (nx c o.toNat) hb
 generalize pshs l st (nx c o.toNat) = r at P
 refine ⟨⟨by rw [P.len, h.len], fun v hv => ?_, fun v hv => ?_, (P.mem 0).2 (.inl h.h0), fun v hv => ?_⟩, ?_⟩
 . rcases (P.stk v).1 hv with hv | hv
   . exact (P.mem v).2 (.inl (h.stk v (by simp [hv])))
   . exact (P.mem v).2 (.inr hv.1)
 . rcases (P.mem v).1 hv with hv | hv
   . exact h.mkd v hv
   . exact .step (h.mkd o ho) hv
 . by_cases hl : isM l v
   . rcases h.cs v hl with h1 | h1
     . rw [A0o, A0d] at h1
       rcases h1 with h1 | h1
       . exact .inl ((P.stk v).2 (.inl h1))
       . subst h1
         exact .inr fun w hw => (P.mem w).2 (.inr hw)
     . exact .inr fun w hw => (P.mem w).2 (.inl (h1 w hw))
   . have := ((P.mem v).1 hv).resolve_left hl
     exact .inl ((P.stk v).2 (.inr ⟨this, hl⟩))
 . have := P.wt
   unfold wtV at this ⊢
   simp only [A0b, A1x] at this ⊢
   omega
theorem Vst.fin (hc : CodeOk c) (h : Vst c l []) : l = rcL c :=
 g0t hc h.len h.h0 h.mkd fun o ho => (h.cs o ho).resolve_left yd
theorem b6s (c : List Ins) (i : Nat) : (nx c i).length <= 1000 := by
 unfold nx
 split
 . simp
 split
 . simp
 split
 . simp
 split
 . have := b4w [(i : Int) + 1] (by assumption : Ins).c; simp at this ⊢; omega
 split <;> simp
def rdN (c : List Ins) (l : List Bool) (k : Nat) : List Bool := (List.range k).foldl (fun l (o : Nat) => if l[o]? = some true then mkL l (nx c o) else l) l
theorem d2s (c : List Ins) (l : List Bool) (k : Nat) : rdN c l (k + 1) = if (rdN c l k)[k]? = some true then mkL (rdN c l k) (nx c k) else rdN c l k := by
 unfold rdN
 rw [A1p, A0z]
 rfl
theorem b1i (c : List Ins) (l : List Bool) : ∀ k, (rdN c l k).length = l.length
 | 0 => rfl
 | k + 1 => by
   rw [d2s]
   split
   . rw [a9o]; exact b1i c l k
   . exact b1i c l k
def chg (l r : List Bool) (m : Bool) : Prop := (m = false -> r = l) /\ (m = true -> r.count false < l.count false) /\ r.count false <= l.count false
theorem g9g (l : List Bool) : chg l l false := ⟨fun _ => rfl, fun h => zr, A5s _⟩
theorem f6v {r : List Bool} {m : Bool} (h : chg l r m) (h0 : 0 <= v) (h1 : v < (r.length : Int)) (hm : ¬ r[v.toNat]? = some true) : chg l (mk1 r v) true := by
 have := e1f h0 h1 hm
 have := h.2.2
 exact ⟨fun e => (by cases e), fun _ => by omega, by omega⟩
structure Swp (c : List Ins) (l : List Bool) (more : Bool) : Prop where
 len : l.length = c.length
 mkd : ∀ o, isM l o -> Rc c o.toNat
 h0 : isM l 0
 cs : more = false -> ∀ o, isM l o -> ∀ v ∈ nx c o.toNat, isM l v
def muS (l : List Bool) (more : Bool) : Nat := if more then l.count false + 1 else 0
theorem Swp.init {c : List Ins} (hc : CodeOk c) : Swp c (mk1 (List.replicate c.length false) 0) true :=
 ⟨(Vst.init hc).len, (Vst.init hc).mkd, (Vst.init hc).h0, fun h => zr⟩
theorem g0r (hc : CodeOk c) (hl : l.length = c.length) (k : Nat) (h : isM (rdN c l k) v) : isM (rdN c l (k + 1)) v := by
 rw [d2s]
 split
 . exact (isM_mkL _ _ fun o ho => by obtain ⟨h1, h2, _⟩ := a7e hc ho; rw [b1i, hl]; omega).2 (.inl h)
 . exact h
theorem b5h {c : List Ins} (hc : CodeOk c) {l : List Bool} (hl : l.length = c.length) {v : Int} (j : Nat) : ∀ k, j <= k -> isM (rdN c l j) v -> isM (rdN c l k) v
 | 0, hk, h => by rw [A4l.1 hk] at h; exact h
 | k + 1, hk, h => by
   by_cases e : j = k + 1
   . rw [<- e]; exact h
   . exact g0r hc hl k (b5h hc hl j k ya h)
theorem g0s {c : List Ins} (hc : CodeOk c) {l : List Bool} (hl : l.length = c.length) (hm : ∀ o, isM l o -> Rc c o.toNat) : ∀ k v, isM (rdN c l k) v -> Rc c v.toNat
 | 0, v, h => hm v h
 | k + 1, v, h => by
   have ih := g0s hc hl hm k
   rw [d2s] at h
   split at h
   . rename_i hk
     rcases (isM_mkL _ _ fun o ho => by obtain ⟨h1, h2, _⟩ := a7e hc ho; rw [b1i, hl]; omega).1 h with h | h
     . exact ih v h
     . have := ih (k : Int) ⟨by omega, by simpa using hk⟩
       rw [A5r] at this
       exact .step this h
   . exact ih v h
theorem Swp.next (hc : CodeOk c) {m0 m : Bool} (h : Swp c l m0) (hg : chg l (rdN c l c.length) m) : Swp c (rdN c l c.length) m /\ muS (rdN c l c.length) m < muS l true := by
 refine ⟨⟨by rw [b1i]; exact h.len, g0s hc h.len h.mkd _, b5h hc h.len 0 _ ya h.h0, fun e o ho v hv => ?_⟩, ?_⟩
 . have e1 := hg.1 e
   rw [e1] at ho ⊢
   have h1 := c3z ho
   have e : ((o.toNat : Nat) : Int) = o := by have := ho.1; omega
   have h2 : isM (rdN c l o.toNat) o := b5h hc h.len 0 o.toNat ya ho
   have h3 : isM (rdN c l (o.toNat + 1)) v := by
    rw [d2s, if_pos h2.2]
    exact (isM_mkL _ _ fun a ha => by obtain ⟨h1, h2, _⟩ := a7e hc ha; rw [b1i, h.len]; omega).2 (.inr hv)
   have h4 := b5h hc h.len (o.toNat + 1) c.length (by rw [h.len] at h1; omega) h3
   rw [e1] at h4
   exact h4
 . unfold muS
   cases m
   . simp
   . have := hg.2.1 rfl
     simp; omega
theorem Swp.fin (hc : CodeOk c) (h : Swp c l false) : l = rcL c := g0t hc h.len h.h0 h.mkd (h.cs rfl)
def ldI (c : List Ins) (i : Nat) : List Int := match c[i]? with
 | none => []
 | some n => if n.op = 16 \/ n.op = 17 \/ n.op = 45 then [n.c, (i : Int) + 1] else if n.op = 30 then [(i : Int) + 1] else []
def ldA (c : List Ins) (b : List Int) (k : Nat) : List Bool := mkL (mkL (List.replicate (c.length + 1) false) b) ((List.range k).flatMap (ldI c))
theorem b2l (h : i < c.length) : ldI c i = if c[i].op = 16 \/ c[i].op = 17 \/ c[i].op = 45 then [c[i].c, (i : Int) + 1] else if c[i].op = 30 then [(i : Int) + 1] else [] := by
 unfold ldI
 rw [A5n h]
theorem f5g (c : List Ins) (b : List Int) (k : Nat) : ldA c b (k + 1) = mkL (ldA c b k) (ldI c k) := by
 unfold ldA
 rw [A1p, List.flatMap_append, b9e]
 simp
theorem g7y (c : List Ins) (b : List Int) : ldA c b 0 = mkL (List.replicate (c.length + 1) false) b := rfl
theorem c0x (c : List Ins) (b : List Int) (k : Nat) : (ldA c b k).length = c.length + 1 := by simp [ldA, a9o]
theorem d8d (hc : CodeOk c) (h : v ∈ ldI c i) : 0 <= v /\ v < ((c.length + 1 : Nat) : Int) /\ (∀ hv : v.toNat < c.length, c[v.toNat].op ≠ 51) := by
 unfold ldI at h
 split at h
 . cases h
 rename_i n hn
 obtain ⟨hi, rfl⟩ := A0q.1 hn
 have nxt : c[i].op ≠ 50 -> c[i].op ≠ 51 -> 0 <= (i : Int) + 1 /\ (i : Int) + 1 < ((c.length + 1 : Nat) : Int) /\ ∀ hv : ((i : Int) + 1).toNat < c.length, c[((i : Int) + 1).toNat].op ≠ 51 := fun h1 h2 => by
  refine ⟨by omega, by omega, fun hv => ?_⟩
  have e : ((i : Int) + 1).toNat = i + 1 := by omega
  simp only [e]
  exact hc.fall i ya h1 h2
 split at h
 . rename_i e
   simp only [A0m, A3m, or_false] at h
   rcases h with h | h
   . subst h
     obtain ⟨h1, h2, h3⟩ := hc.tgt i hi e
     exact ⟨h1, by omega, fun _ => h3⟩
   . subst h; exact nxt ya ya
 split at h
 . rw [A0d] at h
   subst h; exact nxt ya ya
 . cases h
def a1u (c : List Ins) : List Bool := ldA c [0] c.length
theorem a7s (c : List Ins) : (a1u c).length = c.length + 1 := c0x ..
theorem d8j (hc : CodeOk c) {b : List Int} (hb : ∀ o ∈ b, 0 <= o /\ o < ((c.length + 1 : Nat) : Int)) : isM (ldA c b k) v ↔ v ∈ b \/ ∃ i, i < k /\ v ∈ ldI c i := by
 unfold ldA
 rw [isM_mkL _ _ fun o ho => ?_, isM_mkL _ _ fun o ho => ?_]
 . simp only [A4q, A2k]
   exact ⟨fun h => h.elim (fun h => .inl (h.resolve_left (b1g _ v))) fun ⟨a, b, c⟩ => .inr ⟨a, b, c⟩, fun h => h.elim (fun h => .inl (.inr h)) .inr⟩
 . rw [A0u]; exact hb o ho
 . rw [a9o, A0u]
   obtain ⟨i, _, h⟩ := A4q.1 ho
   exact ⟨(d8d hc h).1, (d8d hc h).2.1⟩
theorem a3y (hc : CodeOk c) : isM (a1u c) v ↔ v = 0 \/ ∃ i, i < c.length /\ v ∈ ldI c i := by
 unfold a1u
 rw [d8j hc (fun o ho => by rw [A0d] at ho; omega)]
 simp
theorem c0w (hc : CodeOk c) : isM (a1u c) (c.length : Int) := by
 have h := hc.ne
 have h1 := hc.la (c.length - 1) ya ya
 refine (a3y hc).2 (.inr ⟨c.length - 1, by omega, ?_⟩)
 have e : ((c.length - 1 : Nat) : Int) + 1 = (c.length : Int) := by omega
 rw [b2l ya, e]
 rcases h1 with h1 | h1
 . rw [if_neg ya, if_pos h1]; simp
 . rw [if_pos (.inl h1)]; simp
theorem f5f (hc : CodeOk c) : ldA c [0, (c.length : Int)] c.length = a1u c := by
 refine d1i (by rw [c0x, a7s]) fun v => ?_
 rw [d8j hc (fun o ho => by simp only [A0m, A3m, or_false] at ho; omega), a3y hc]
 simp only [A0m, A3m, or_false]
 constructor
 . rintro ((h | h) | h)
   . exact .inl h
   . subst h; exact (a3y hc).1 (c0w hc)
   . exact .inr h
 . rintro (h | h)
   . exact .inl (.inl h)
   . exact .inr h
theorem c6a (hc : CodeOk c) (h : (a1u c)[i]? = some true) (hi : i < c.length) : c[i].op ≠ 51 := by
 have hm : isM (a1u c) (i : Int) := ⟨by omega, by simpa using h⟩
 rcases (a3y hc).1 hm with h1 | ⟨j, _, h1⟩
 . have : i = 0 := by omega
   subst this; exact hc.h0 hi
 . have := (d8d hc h1).2.2 (by simpa using hi)
   simpa using this
def stF (c : List Ins) : Nat -> Nat
 | 0 => 0
 | k + 1 => if (a1u c)[k + 1]? = some true then k + 1 else stF c k
def bkF (c : List Ins) : Nat -> List (Nat × Nat)
 | 0 => []
 | k + 1 => if (a1u c)[k + 1]? = some true then bkF c k ++ [(stF c k, k + 1)] else bkF c k
def nmF (c : List Ins) (k : Nat) : Nat := (bkF c k).length
def nmL (c : List Ins) (n k : Nat) : List Int := (List.range n).map fun j => if j < k then (nmF c j : Int) else 0
def bkR (c : List Ins) : Nat -> List (Nat × Nat)
 | 0 => []
 | k + 1 => bkF c k ++ [(stF c k, k + 1)]
theorem b4c (c : List Ins) : ∀ k, stF c k <= k
 | 0 => A5s _
 | k + 1 => by
   unfold stF
   split
   . exact A5s _
   . have := b4c c k; omega
theorem c2z (h : (a1u c)[k + 1]? = some true) : stF c (k + 1) = k + 1 := by rw [stF, if_pos h]
theorem c0c (h : ¬ (a1u c)[k + 1]? = some true) : stF c (k + 1) = stF c k := by rw [stF, if_neg h]
theorem c2g (h : (a1u c)[k + 1]? = some true) : bkF c (k + 1) = bkF c k ++ [(stF c k, k + 1)] := by rw [bkF, if_pos h]
theorem c2h (h : ¬ (a1u c)[k + 1]? = some true) : bkF c (k + 1) = bkF c k := by rw [bkF, if_neg h]
theorem b5v {c : List Ins} {j : Nat} : ∀ k, stF c k <= j -> j <= k -> bkF c j = bkF c k /\ stF c j = stF c k
 | 0, _, h => by rw [A4l.1 h]; exact ⟨rfl, rfl⟩
 | k + 1, h1, h2 => by
   by_cases e : j = k + 1
   . subst e; exact ⟨rfl, rfl⟩
   . by_cases hl : (a1u c)[k + 1]? = some true
     . rw [c2z hl] at h1; omega
     . rw [c2h hl, c0c hl]
       rw [c0c hl] at h1
       exact b5v k h1 ya
theorem b3h (c : List Ins) (n k : Nat) : (nmL c n k).length = n := by simp [nmL]
theorem f4q (c : List Ins) (n : Nat) : nmL c n 0 = List.replicate n 0 := by simp [nmL, List.map_const']
theorem g1m (h : k < n) : (nmL c n k).set k (nmF c k : Int) = nmL c n (k + 1) := by
 refine A0e (by simp [nmL]) fun i h1 h2 => ?_
 rw [A1e]
 simp only [nmL, A2s, A3t]
 by_cases e : k = i
 . subst e; rw [if_pos rfl, if_pos ya]
 . rw [if_neg e]
   by_cases e2 : i < k
   . rw [if_pos e2, if_pos ya]
   . rw [if_neg e2, if_neg ya]
theorem e9u (h : i < n) (hk : i < k) : (nmL c n k)[i]? = some (nmF c i : Int) := by
 rw [nmL, A1j, A4h h]
 simp [hk]
theorem g9w (h : (a1u c)[k]? = some true) (hk : 0 < k) : bkR c (k + 1) = bkR c k ++ [(k, k + 1)] := by
 obtain ⟨j, rfl⟩ : ∃ j, k = j + 1 := ⟨k - 1, by omega⟩
 rw [bkR, bkR, c2g h, c2z h]
theorem g9x (h : ¬ (a1u c)[k]? = some true) (hk : 0 < k) : ∃ B x, bkR c k = B ++ [(x, k)] /\ bkR c (k + 1) = B ++ [(x, k + 1)] := by
 obtain ⟨j, rfl⟩ : ∃ j, k = j + 1 := ⟨k - 1, by omega⟩
 refine ⟨bkF c j, stF c j, rfl, ?_⟩
 rw [bkR, c2h h, c0c h]
theorem c7e : (bkR c (k + 1)).length = nmF c k + 1 := by simp [bkR, nmF]
theorem f7m (hc : CodeOk c) : bkR c c.length = bkF c c.length := by
 have h := hc.ne
 obtain ⟨j, e⟩ : ∃ j, c.length = j + 1 := ⟨c.length - 1, by omega⟩
 have hl := (c0w hc).2
 rw [A5r] at hl
 rw [e] at hl ⊢
 rw [bkR, c2g hl]
theorem c5n (hc : CodeOk c) : stF c c.length = c.length := by
 have h := hc.ne
 have hl := (c0w hc).2
 rw [A5r] at hl
 obtain ⟨j, e⟩ : ∃ j, c.length = j + 1 := ⟨c.length - 1, by omega⟩
 rw [e] at hl ⊢
 exact c2z hl
structure BkIn (c : List Ins) (j : Nat) (b : Nat × Nat) : Prop where
 lt : b.1 < b.2
 num : ∀ i, b.1 <= i -> i < b.2 -> stF c i = b.1 /\ nmF c i = j
 l2 : (a1u c)[b.2]? = some true
 n2 : nmF c b.2 = j + 1
theorem d3r (c : List Ins) : ∀ k j (h : j < (bkF c k).length), BkIn c j (bkF c k)[j] /\ (bkF c k)[j].2 <= k
 | 0, _, h => by cases h
 | k + 1, j, h => by
   by_cases hl : (a1u c)[k + 1]? = some true
   . have e := c2g hl
     have h' : j < (bkF c k ++ [(stF c k, k + 1)]).length := by rw [<- e]; exact h
     have key : BkIn c j (bkF c k ++ [(stF c k, k + 1)])[j] /\ (bkF c k ++ [(stF c k, k + 1)])[j].2 <= k + 1 := by
      rw [List.getElem_append]
      split
      . rename_i h1
        have := d3r c k j h1
        exact ⟨this.1, by omega⟩
      . rename_i h1
        rw [A0b, A1x] at h'
        have e2 : j = (bkF c k).length := by omega
        simp only [e2, A4y, A4u]
        refine ⟨⟨by have := b4c c k; omega, fun i h2 h3 => ?_, hl, ?_⟩, A5s _⟩
        . obtain ⟨g1, g2⟩ := b5v (c := c) (j := i) k h2 (by simp only at h3; omega)
          exact ⟨g2, by rw [nmF, g1]⟩
        . show nmF c (k + 1) = _
          rw [nmF, e, A0b]; rfl
     simpa only [e] using key
   . have e := c2h hl
     have := d3r c k j (by rw [<- e]; exact h)
     simp only [e]
     exact ⟨this.1, by omega⟩
theorem f7k (c : List Ins) : ∀ k i, i < stF c k -> ∃ h : nmF c i < (bkF c k).length, (bkF c k)[nmF c i].1 <= i /\ i < (bkF c k)[nmF c i].2
 | 0, _, h => by cases h
 | k + 1, i, h => by
   by_cases hl : (a1u c)[k + 1]? = some true
   . have e := c2g hl
     rw [c2z hl] at h
     have key : ∃ h : nmF c i < (bkF c k ++ [(stF c k, k + 1)]).length, (bkF c k ++ [(stF c k, k + 1)])[nmF c i].1 <= i /\ i < (bkF c k ++ [(stF c k, k + 1)])[nmF c i].2 := by
      rcases A0r i (stF c k) with h1 | h1
      . obtain ⟨g1, g2, g3⟩ := f7k c k i h1
        refine ⟨by rw [A0b]; omega, ?_⟩
        rw [List.getElem_append_left g1]
        exact ⟨g2, g3⟩
      . obtain ⟨g1, g2⟩ := b5v (c := c) (j := i) k h1 ya
        have g3 : nmF c i = (bkF c k).length := by rw [nmF, g1]
        refine ⟨by rw [A0b, A1x]; omega, ?_⟩
        simp only [g3]
        rw [A5j (A5s _)]
        simp only [A4y, A4u]
        exact ⟨h1, by omega⟩
     simpa only [e] using key
   . have e := c2h hl
     rw [c0c hl] at h
     have := f7k c k i h
     simpa only [e] using this
theorem c9k (c : List Ins) {i : Nat} : ∀ k, i <= k -> nmF c i <= nmF c k
 | 0, h => by rw [A4l.1 h]; exact A5s _
 | k + 1, h => by
   by_cases e : i = k + 1
   . subst e; exact A5s _
   . have := c9k c (i := i) k ya
     by_cases hl : (a1u c)[k + 1]? = some true
     . have : nmF c (k + 1) = nmF c k + 1 := by rw [nmF, c2g hl, A0b]; rfl
       omega
     . have : nmF c (k + 1) = nmF c k := by rw [nmF, c2h hl]; rfl
       omega
theorem d7m (h : i < k) (hl : (a1u c)[k]? = some true) : nmF c i < nmF c k := by
 obtain ⟨j, rfl⟩ : ∃ j, k = j + 1 := ⟨k - 1, by omega⟩
 have := c9k c (i := i) j ya
 have : nmF c (j + 1) = nmF c j + 1 := by rw [nmF, c2g hl, A0b]; rfl
 omega
theorem c7c (hc : CodeOk c) (h : j + 1 < (bkF c k).length) : (bkF c k)[j + 1].1 = (bkF c k)[j].2 := by
 obtain ⟨h1, _⟩ := d3r c k j ya
 obtain ⟨h2, _⟩ := d3r c k (j + 1) h
 have n1 := h1.n2
 have n2 := (h2.num _ (A5s _) h2.lt).2
 have hl1 := h1.l2
 have hl2 : (a1u c)[(bkF c k)[j + 1].1]? = some true := by
  have := (h2.num _ (A5s _) h2.lt).1
  cases hz : (bkF c k)[j + 1].1 with
  | zero =>
    have := ((a3y hc).2 (.inl rfl) : isM (a1u c) 0).2
    simpa using this
  | succ m =>
    rw [hz] at this
    by_cases hl : (a1u c)[m + 1]? = some true
    . exact hl
    . rw [c0c hl] at this
      have := b4c c m; omega
 rcases A3e (bkF c k)[j + 1].1 (bkF c k)[j].2 with h3 | h3 | h3
 . have := d7m h3 hl1; omega
 . exact h3
 . have := d7m h3 hl2; omega
theorem d1j (h : 0 < (bkF c k).length) : (bkF c k)[0].1 = 0 := by
 obtain ⟨h1, _⟩ := d3r c k 0 h
 have n2 := h1.num _ (A5s _) h1.lt
 cases hz : (bkF c k)[0].1 with
 | zero => rfl
 | succ m =>
   rw [hz] at n2
   by_cases hl : (a1u c)[m + 1]? = some true
   . have := d7m (c := c) (i := m) ya hl; omega
   . rw [c0c hl] at n2
     have := b4c c m; omega
theorem f7j (h : 0 < (bkF c k).length) : (bkF c k)[(bkF c k).length - 1].2 = stF c k := by
 induction k with
 | zero => cases h
 | succ k ih =>
   by_cases hl : (a1u c)[k + 1]? = some true
   . have e := c2g hl
     have key : ∀ h : 0 < (bkF c k ++ [(stF c k, k + 1)]).length, (bkF c k ++ [(stF c k, k + 1)])[(bkF c k ++ [(stF c k, k + 1)]).length - 1].2 = k + 1 := fun h => by
      rw [A5j yd]
      simp
     rw [c2z hl]
     simpa only [e] using key yd
   . have e := c2h hl
     rw [c0c hl]
     have := ih (by rw [<- e]; exact h)
     simpa only [e] using this
def nxB (c : List Ins) (b : Nat × Nat) : List Int := ((nx c (hd c (b.2 - 1))).map fun v => (nmF c v.toNat : Int)).foldl a0r []
def blks (c : List Ins) : List (Nat × Nat) := bkF c c.length
def nxN (c : List Ins) (j : Nat) : List Int := match (blks c)[j]? with
 | some b => nxB c b
 | none => []
theorem b2j {v : Int} : ∀ (s a : List Int), v ∈ s.foldl a0r a ↔ v ∈ a \/ v ∈ s
 | [], a => by simp
 | x :: s, a => by
   rw [A2i, b2j s (a0r a x), c0s, A0m, or_assoc]
theorem c5x {b : Nat × Nat} : v ∈ nxB c b ↔ ∃ w ∈ nx c (hd c (b.2 - 1)), v = (nmF c w.toNat : Int) := by
 unfold nxB
 rw [b2j]
 simp only [A3m, false_or, A1t]
 exact ⟨fun ⟨w, h, e⟩ => ⟨w, h, e.symm⟩, fun ⟨w, h, e⟩ => ⟨w, h, e.symm⟩⟩
inductive RB (c : List Ins) : Nat -> Prop
 | zero : RB c 0
 | step {j : Nat} {v : Int} : RB c j -> v ∈ nxN c j -> RB c v.toNat
theorem b8g (hc : CodeOk c) (h : i < c.length) : ∃ hj : nmF c i < (blks c).length, (blks c)[nmF c i].1 <= i /\ i < (blks c)[nmF c i].2 := by
 have := f7k c c.length i (by rw [c5n hc]; exact h)
 exact this
theorem a8v (h : j < (blks c).length) : BkIn c j (blks c)[j] /\ (blks c)[j].2 <= c.length := d3r c c.length j h
theorem d7l (h : j < (blks c).length) : nxN c j = nxB c (blks c)[j] := by
 unfold nxN
 rw [A5n h]
theorem c3l (hc : CodeOk c) (h : v ∈ nxN c j) : 0 <= v /\ v < ((blks c).length : Int) := by
 unfold nxN at h
 split at h
 . obtain ⟨w, hw, rfl⟩ := c5x.1 h
   obtain ⟨h1, h2, _⟩ := a7e hc hw
   obtain ⟨h3, _⟩ := b8g hc h2
   omega
 . cases h
theorem d8y (hc : CodeOk c) (h : i < c.length) (e : c[i].op = 51) : ∃ hj : hd c i < i, c[hd c i].op = 50 /\ (i : Int) <= hd c i + c[hd c i].b := by
 obtain ⟨j, hj, g1, g2, g3⟩ := hc.cas i h e
 have key : ∀ k, j <= k -> k <= i -> hd c k = j := fun k => by
  induction k with
  | zero => intro h1 _; rw [A4l.1 h1]; rfl
  | succ k ih =>
    intro h1 h2
    by_cases ek : j = k + 1
    . subst ek
      exact a5o ya ya
    . rw [hd_s ya (g3 (k + 1) ya ya h2)]
      exact ih ya ya
 have := key i ya (A5s _)
 simp only [this]
 exact ⟨hj, g1, g2⟩
theorem d7r (hc : CodeOk c) (h : j < (blks c).length) (hv : v ∈ nx c (hd c ((blks c)[j].2 - 1))) : (a1u c)[v.toNat]? = some true := by
 obtain ⟨B, hB⟩ := a8v h
 generalize hb : (blks c)[j] = b at B hB hv
 have hlt := B.lt
 have hle := b2o c (b.2 - 1)
 generalize hi : hd c (b.2 - 1) = i at hv hle
 have hil : i < c.length := by omega
 have hop : c[i].op ≠ 51 := by
  have := d3e hc (b.2 - 1) ya (by rw [hi]; omega)
  simpa only [hi] using this
 have L : ∀ w : Int, w ∈ ldI c i -> (a1u c)[w.toNat]? = some true := fun w hw => ((a3y hc).2 (.inr ⟨i, hil, hw⟩)).2
 have E : v = (b.2 : Int) -> (a1u c)[v.toNat]? = some true := fun e => by rw [e, A5r]; exact B.l2
 -- the last instruction, where no case follows
 have T : c[i].op ≠ 50 -> i = b.2 - 1 := fun n50 => by
  by_cases e5 : c[b.2 - 1].op = 51
  . obtain ⟨g1, g2, _⟩ := d8y hc ya e5
    simp only [hi] at g2
    omega
  . rw [a5o ya e5] at hi; exact hi.symm
 rw [c5v hil] at hv
 split at hv
 . cases hv
 split at hv
 . rename_i e
   rw [A0d] at hv; subst hv
   exact L _ (by rw [b2l hil, if_pos (.inl e)]; simp)
 split at hv
 . rename_i e
   rcases c3t.1 hv with hv | hv
   . subst hv
     exact L _ (by rw [b2l hil, if_pos (.inr e)]; simp)
   . subst hv
     exact L _ (by rw [b2l hil, if_pos (.inr e)]; simp)
 split at hv
 . rename_i e
   rw [A0d] at hv
   obtain ⟨⟨s1, _⟩, s2, s3, s4⟩ := hc.sel i hil e
   refine E ?_
   rcases A0r (b.2 - 1) (i + 1 + c[i].b.toNat) with h1 | h1
   . rcases A0r b.2 (i + 1 + c[i].b.toNat) with h2 | h2
     . -- a leader that is a case
       obtain ⟨g1, g2⟩ := s2 (b.2 - i - 1) ya
       have e2 : i + 1 + (b.2 - i - 1) = b.2 := by omega
       simp only [e2] at g2
       exact absurd g2 (c6a hc B.l2 ya)
     . omega
   . by_cases e5 : c[b.2 - 1].op = 51
     . obtain ⟨g1, g2, g3⟩ := d8y hc ya e5
       simp only [hi] at g3
       omega
     . rw [a5o ya e5] at hi; omega
 . rename_i n30 n16 n17 n50
   rw [A0d] at hv
   have := T ya
   exact E ya
theorem e1u (hc : CodeOk c) (h : j < (blks c).length) (hr : Rc c (blks c)[j].1) : ∀ i, (blks c)[j].1 <= i -> i < (blks c)[j].2 -> Rc c (hd c i) := by
 obtain ⟨B, hB⟩ := a8v h
 generalize hb : (blks c)[j] = b at B hB hr
 intro i
 induction i with
 | zero =>
   intro h1 _
   have : b.1 = 0 := by omega
   rw [this] at hr; exact hr
 | succ i ih =>
   intro h1 h2
   by_cases e1 : b.1 = i + 1
   . have ho := hr.op hc ya
     rw [<- e1, a5o ya ho]; exact hr
   . have ihr := ih ya ya
     by_cases e5 : c[i + 1].op = 51
     . rw [hd_s ya e5]; exact ihr
     rw [a5o ya e5]
     have hnl : ¬ (a1u c)[i + 1]? = some true := fun hl => by
      have g1 := (B.num (i + 1) h1 h2).1
      rw [c2z hl] at g1
      omega
     have hni : ∀ w : Int, w ∈ ldI c i -> w ≠ (i : Int) + 1 := fun w hw e => hnl (by
      have := ((a3y hc).2 (.inr ⟨i, by omega, hw⟩)).2
      rw [e] at this
      have e2 : ((i : Int) + 1).toNat = i + 1 := by omega
      rwa [e2] at this)
     have e2 : ((i : Int) + 1).toNat = i + 1 := by omega
     by_cases e51 : c[i].op = 51
     . obtain ⟨g1, g2, g3⟩ := d8y hc ya e51
       obtain ⟨q, hq⟩ := ex_ (hd c i)
       simp only [hq] at ihr g1 g2 g3
       obtain ⟨⟨s1, _⟩, s2, s3, s4⟩ := hc.sel q ya g2
       have e3 : (i : Int) = q + c[q].b := by
        rcases Int.lt_or_le (i : Int) (q + c[q].b) with h3 | h3
        . obtain ⟨g4, g5⟩ := s2 (i - q) ya
          have e6 : q + 1 + (i - q) = i + 1 := by omega
          simp only [e6] at g5
          exact absurd g5 e5
        . omega
       have : (i : Int) + 1 ∈ nx c q := by
        rw [c5v ya, if_neg ya, if_neg ya, if_neg ya, if_pos g2, A0d]
        omega
       have := ihr.step this
       rwa [e2] at this
     . rw [a5o ya e51] at ihr
       have hlI := b2l (c := c) (i := i) ya
       have n17 : ¬ (c[i].op = 16 \/ c[i].op = 17 \/ c[i].op = 45) := fun e => hni ((i : Int) + 1) (by rw [hlI, if_pos e]; simp) rfl
       have n30 : ¬ c[i].op = 30 := fun e => hni ((i : Int) + 1) (by rw [hlI, if_neg n17, if_pos e]; simp) rfl
       have : (i : Int) + 1 ∈ nx c i := by
        rw [c5v ya, if_neg ya, if_neg ya, if_neg ya]
        split
        . rename_i e
          rw [A0d]
          obtain ⟨⟨s1, _⟩, s2, s3, s4⟩ := hc.sel i ya e
          have : ¬ 0 < c[i].b := fun h3 => by
           obtain ⟨g4, g5⟩ := s2 0 ya
           exact absurd g5 e5
          omega
        . simp
       have := ihr.step this
       rwa [e2] at this
theorem b9g (h : (a1u c)[i]? = some true) : stF c i = i := by
 cases i with
 | zero => rfl
 | succ i => exact c2z h
theorem f3w (hc : CodeOk c) (h : RB c j) : j < (blks c).length := by
 cases h with
 | zero =>
   obtain ⟨h1, _⟩ := b8g hc hc.ne
   have : nmF c 0 = 0 := rfl
   omega
 | step _ h => have := c3l hc h; omega
theorem g7i (hc : CodeOk c) (h : RB c j) : ∀ hj : j < (blks c).length, Rc c (blks c)[j].1 := by
 induction h with
 | zero =>
   intro hj
   have : (blks c)[0].1 = 0 := d1j hj
   rw [this]; exact .zero hc.ne
 | @step j v h1 h2 ih =>
   intro hj
   have hj0 := f3w hc h1
   rw [d7l hj0] at h2
   obtain ⟨w, hw, rfl⟩ := c5x.1 h2
   have hl := d7r hc hj0 hw
   obtain ⟨_, hwl, _⟩ := a7e hc hw
   simp only [A5r] at hj ⊢
   obtain ⟨g1, g2, g3⟩ := b8g hc hwl
   have g4 := ((a8v g1).1.num _ g2 g3).1
   rw [b9g hl] at g4
   rw [<- g4]
   have hlt := (a8v hj0).1.lt
   exact .step (e1u hc hj0 (ih hj0) ((blks c)[j].2 - 1) ya ya) hw
theorem g1f (hc : CodeOk c) (h : Rc c i) : RB c (nmF c i) := by
 induction h with
 | zero => exact .zero
 | @step i v h1 hv ih =>
   have hi := h1.lt hc
   have hop := h1.op hc hi
   obtain ⟨h2, hvl, hvo⟩ := a7e hc hv
   obtain ⟨g1, g2, g3⟩ := b8g hc hi
   obtain ⟨B, hB⟩ := a8v g1
   by_cases e : hd c ((blks c)[nmF c i].2 - 1) = i
   . have : RB c ((nmF c v.toNat : Nat) : Int).toNat := .step ih (by rw [d7l g1]; exact c5x.2 ⟨v, by rw [e]; exact hv, rfl⟩)
     rwa [A5r] at this
   . -- the same block
     generalize hb : (blks c)[nmF c i] = b at B hB e g2 g3
     have same : b.1 <= v.toNat -> v.toNat < b.2 -> RB c (nmF c v.toNat) := fun a1 a2 => by rw [(B.num _ a1 a2).2]; exact ih
     have hend : b.2 = i + 1 -> False := fun e2 => e (by
      have : b.2 - 1 = i := by omega
      rw [this]; exact a5o hi hop)
     have hld : (i : Int) + 1 ∈ ldI c i -> False := fun hm => by
      have hl := ((a3y hc).2 (.inr ⟨i, hi, hm⟩)).2
      have e2 : ((i : Int) + 1).toNat = i + 1 := by omega
      rw [e2] at hl
      rcases A0r (i + 1) b.2 with h5 | h5
      . have := (B.num (i + 1) ya h5).1
        rw [b9g hl] at this
        omega
      . exact hend ya
     have hlI := b2l (c := c) (i := i) hi
     have n17 : ¬ (c[i].op = 16 \/ c[i].op = 17 \/ c[i].op = 45) := fun e => hld (by rw [hlI, if_pos e]; simp)
     have n30 : ¬ c[i].op = 30 := fun e => hld (by rw [hlI, if_neg n17, if_pos e]; simp)
     rw [c5v hi, if_neg ya, if_neg ya, if_neg ya] at hv
     split at hv
     . rename_i e5
       rw [A0d] at hv
       obtain ⟨⟨s1, _⟩, s2, s3, s4⟩ := hc.sel i hi e5
       rcases A0r v.toNat b.2 with h5 | h5
       . exact same ya h5
       . exfalso
         refine e ?_
         have key : ∀ k, i <= k -> k < i + 1 + c[i].b.toNat -> hd c k = i := fun k => by
          induction k with
          | zero => intro a1 _; rw [A4l.1 a1]; rfl
          | succ k ihk =>
            intro a1 a2
            by_cases ek : i = k + 1
            . subst ek; exact a5o hi hop
            . obtain ⟨g4, g5⟩ := s2 (k - i) ya
              have e6 : i + 1 + (k - i) = k + 1 := by omega
              simp only [e6] at g4 g5
              rw [hd_s ya g5]
              exact ihk ya ya
         exact key _ ya ya
     . rw [A0d] at hv
       have e2 : v.toNat = i + 1 := by omega
       rcases A0r v.toNat b.2 with h5 | h5
       . exact same ya h5
       . exact (hend ya).elim
def e8f (c : List Ins) (l : List Int) : Prop := ∀ o, o ∈ l ↔ 0 <= o /\ RB c o.toNat
end Go.Gv
namespace Go.Je
open Go Go.FM Go.Gv Go.Proofs
@[simp] theorem g3k : arT Tp 130 = (some (3, 1)) /\ byT Tp 37 = (some 24) /\ byT Tp 4 = (some 1) /\ byT Tp 65 = (some 8) /\ byT Tp 68 = (some 8) /\ byT Tp 87 = (some 40) /\ fldT Tp 72 0 = (some 0) /\ fldT Tp 72 1 = (some 4) /\ fldT Tp 72 2 = (some 5) /\ fldT Tp 72 3 = (some 9) /\ fldT Tp 72 4 = (some 10) /\ fldT Tp 87 0 = (some 0) /\ fldT Tp 87 1 = (some 1) /\ fldT Tp 87 2 = (some 2) /\ fnOk Tp 11 = true /\ fnOk Tp 121 = true /\ fnOk Tp 129 = true /\ fnOk Tp 13 = true /\ fnOk Tp 130 = true /\ fnOk Tp 131 = true /\ fnOk Tp 133 = true /\ fnOk Tp 134 = true /\ fnOk Tp 135 = true /\ fnOk Tp 136 = true /\ fnOk Tp 137 = true /\ fnOk Tp 138 = true /\ fnOk Tp 14 = true /\ fnOk Tp 16 = true /\ fnOk Tp 163 = true /\ fnOk Tp 165 = true := by and_intros <;> kernel_rfl
@[simp] theorem f8q : fnOk Tp 170 = true /\ fnOk Tp 18 = true /\ fnOk Tp 19 = true /\ fnOk Tp 20 = true /\ fnOk Tp 38 = true /\ fnOk Tp 40 = true /\ fnOk Tp 41 = true /\ fnOk Tp 42 = true /\ fnOk Tp 43 = true /\ fnOk Tp 44 = true /\ fnOk Tp 47 = true /\ fnOk Tp 48 = true /\ fnOk Tp 50 = true /\ fnOk Tp 51 = true /\ fnOk Tp 78 = true /\ fnOk Tp 79 = true /\ fnOk Tp 80 = true /\ fnOk Tp 81 = true /\ fnOk Tp 82 = true /\ fnOk Tp 83 = true /\ fnOk Tp 84 = true /\ fnOk Tp 85 = true /\ fnOk Tp 87 = true /\ ldT Tp 174 = (some none) /\ ldT Tp 37 = (some none) /\ ldT Tp 65 = (some none) /\ ldT Tp 68 = (some none) /\ ldT Tp 70 = (some none) /\ ldT Tp 84 = (some none) /\ ldT Tp 87 = (some (some 3)) := by and_intros <;> kernel_rfl
@[simp] theorem f0s : a3v Tp 35 = (some ((0, 1) :: ((1, 1) :: ((2, 1) :: ((3, 1) :: []))))) /\ a3v Tp 72 = (some ((0, 4) :: ((4, 1) :: ((5, 4) :: ((9, 1) :: ((10, 1) :: [])))))) /\ a3v Tp 79 = (some ((0, 1) :: ((1, 1) :: []))) /\ a3v Tp 87 = (some ((0, 1) :: ((1, 1) :: ((2, 1) :: [])))) /\ slT Tp 130 = none /\ slT Tp 37 = (some (4, 1)) /\ slT Tp 64 = (some (65, 1)) /\ slT Tp 70 = (some (68, 1)) /\ slT Tp 74 = (some (37, 1)) /\ slT Tp 84 = (some (87, 3)) /\ szT Tp 130 = (some 3) /\ szT Tp 174 = (some 1) /\ szT Tp 37 = (some 1) /\ szT Tp 68 = (some 1) /\ szT Tp 70 = (some 1) /\ szT Tp 84 = (some 1) /\ szT Tp 87 = (some 3) /\ a2y Tp 174 = (some (FV.nilf :: [])) /\ a2y Tp 37 = (some (FV.nils :: [])) /\ a2y Tp 65 = (some (FV.nilp :: [])) /\ a2y Tp 68 = (some ((FV.int Go.IntKind.u64 0) :: [])) /\ a2y Tp 72 = (some (FV.nils :: (FV.nils :: (FV.nils :: ((FV.int Go.IntKind.i64 0) :: ((FV.int Go.IntKind.i64 0) :: ((FV.str (.mk (.mk []))) :: ((FV.int Go.IntKind.i64 0) :: ((FV.int Go.IntKind.i64 0) :: (FV.nils :: (FV.nils :: (FV.nils :: [])))))))))))) /\ a2y Tp 84 = (some (FV.nils :: [])) /\ a2y Tp 87 = (some ((FV.int Go.IntKind.i64 0) :: ((FV.int Go.IntKind.i64 0) :: (FV.nils :: [])))) := by and_intros <;> kernel_rfl
end Go.Je
namespace Go.Je
open Go Go.RowKit Go.Proofs Go.Shelf Go.Sort Go.FM
theorem d5h (l : List ByteArray) : (strs l).flatten = l.map FV.str := by
 induction l with
 | nil => rfl
 | cons x l ih => simp only [strs, A1m, A0l, b8x] at ih ⊢; rw [ih]; rfl
theorem c8s {w : World} {F : Nat -> Prop} {U : FM.Loc -> Prop} {m : FM.Loc -> Nat × Nat} : ∀ (l : List ByteArray) (vs : List Value), RFs w F U m (l.map FV.str) vs -> vs = l.map Value.string
 | [], _, h => by cases h; rfl
 | x :: l, _, h => by
   cases h with
   | cons _ v _ vs h1 h2 =>
   cases h1
   rw [c8s l vs h2]; rfl
theorem c36 (l : List ByteArray) (hl : l.length <= 2000000) : Pq 77 [.list 1 (strs l)] (.bool (Gv.uniq (l.map (·.data.toList)))) := by
 refine b5w fun w F m vs hF hG hv hH => ?_
 cases hv with
 | cons _ v _ vs h1 h2 =>
 cases h2
 cases h1 with
 | list sz xs A cap vs hl' hc hm h =>
 rw [d5h] at h
 have hvs := c8s l vs h
 subst hvs
 rw [a2e]
 have fin : ∀ (e : Ending) (w' : World), (e = .returned (.bool (Gv.uniq (l.map (·.data.toList)))) /\ RowKit.Below w.heap.size w w') -> ∃ v, e = .returned v /\ RowKit.Below w.heap.size w w' /\ RF w' F (fun l => noH l ≠ none) m (.bool (Gv.uniq (l.map (·.data.toList)))) v := by
  rintro e w' ⟨rfl, hb⟩
  exact ⟨_, rfl, hb, .bool _⟩
 cases hA : A with
 | none =>
   cases l with
   | cons x l => obtain ⟨a, ha, _⟩ := hm (by simp [strs]); rw [hA] at ha; cases ha
   | nil =>
     refine (d2d cap w).mono ?_
     rintro e w' ⟨rfl, rfl⟩
     exact fin _ _ ⟨rfl, Below.refl _ _⟩
 | some a =>
   by_cases hn : l = []
   . subst hn
     refine (b5z (some a) 0 cap [] w ya ((Any.slices_Clone_string_zero uL1 a cap w).mono ?_)).mono ?_
     . rintro e w' ⟨v', rfl, h1, h2, h3⟩; exact ⟨v', rfl, h1, h2, h3⟩
     . exact fin
   . obtain ⟨a', ha, hF', hcell⟩ := hm (by cases l with | nil => exact absurd rfl hn | cons x l => simp [strs])
     rw [hA] at ha
     cases ha
     have hs : a.spot = none := by
      obtain ⟨v, hv⟩ : ∃ v, (l.map Value.string)[0]? = some v := ⟨_, A5n (by cases l with | nil => exact absurd rfl hn | cons x l => simp)⟩
      have := hcell 0 v hv
      simp only [Addr.add, if_true] at this
      unfold World.cell? at this
      split at this
      . split at this
        . cases this
        . rename_i h; simpa using h
      . cases this
     obtain ⟨b, off, sp⟩ := a
     simp only at hs
     subst hs
     have hcl := Any.slices_Clone_string uL1 b off l.length cap l w (A5s _) ya (fun j hj => by
      have := hcell j (.string l[j]) (by rw [A1j, A5n hj]; rfl)
      rw [add0] at this
      rw [this, A5m, A5n hj]; rfl)
     refine (b5z (some ⟨b, off, none⟩) l.length cap (l.map (·.data.toList)) w ya (hcl.mono ?_)).mono fin
     rintro e w' ⟨v', rfl, h1, h2, h3⟩
     exact ⟨v', rfl, by rw [Lib.map_encStr]; rw [A0c] at h1; exact h1, h2, h3⟩
end Go.Je
namespace Go.Je
open Go Go.FM Go.Gv Go.Proofs
end Go.Je
