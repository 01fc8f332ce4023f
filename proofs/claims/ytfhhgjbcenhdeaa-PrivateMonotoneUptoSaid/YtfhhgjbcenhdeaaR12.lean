/- Parts of the proof. -/
import Derived.Test.YtfhhgjbcenhdeaaR11
set_option linter.unusedSimpArgs false
set_option linter.unusedVariables false
namespace Go.He
open Go Go.FM Go.Gv Go.Proofs
set_option maxRecDepth 100000
set_option maxHeartbeats 40000000
def b8l (s : ByteArray) : List FV := [.str s]
def strs (L : List (ByteArray)) : List (List FV) := L.map b8l
theorem a2k (L : List (ByteArray)) : (strs L).length = L.length := by simp [strs]
theorem a2t (a b : List (ByteArray)) : strs (a ++ b) = strs a ++ strs b := by simp [strs]
theorem a4m (a : ByteArray) : strs [a] = [b8l a] := rfl
theorem a4h : strs [] = [] := rfl
theorem a3q (n : Nat) (l : List (ByteArray)) : (strs l).take n = strs (l.take n) := by simp [strs, List.map_take]
theorem a2y (L : List (ByteArray)) : nlss (strs L) = true := by
 induction L with
 | nil => rfl
 | cons r rs ih => simpa [strs, nlss, nls, nl, b8l] using ih
def fidx (l : List Int) : Int := if l.all a5b then -1 else (l.findIdx (fun k => !a5b k) : Int)
theorem d8z {l : List Int} (h : ∀ j (hj : j < l.length), a5b l[j] = true) : fidx l = -1 := by
 rw [fidx, if_pos]
 rw [List.all_eq_true]
 intro x hx
 obtain ⟨j, hj, rfl⟩ := List.getElem_of_mem hx
 exact h j hj
theorem d3x {l : List Int} {i : Nat} (hi : i < l.length) (h : a5b l[i] = false) (hb : ∀ j (hj : j < l.length), j < i -> a5b l[j] = true) : fidx l = (i : Int) := by
 rw [fidx, if_neg]
 . congr 1
   rw [List.findIdx_eq hi]
   refine ⟨by simp [h], fun j hj => ?_⟩
   have := hb j (by omega) hj
   simp [this]
 . intro ha
   have := List.all_eq_true.mp ha _ (List.getElem_mem hi)
   rw [h] at this; cases this
theorem d3w (l : List Int) : decide (0 <= fidx l) = !(l.all a5b) := by
 unfold fidx
 cases h : l.all a5b <;> simp
def kOk (l : List Int) (i : Nat) : Prop := ∀ j (hj : j < l.length), j < i -> a5b l[j] = true
theorem g1o (l : List Int) : kOk l 0 := fun _ _ h => absurd h (by omega)
theorem g1n {l : List Int} {i : Nat} (h : kOk l i) (hi : i < l.length) (e : a5b l[i] = true) : kOk l (i + 1) := by
 intro j hj hji
 by_cases e' : j = i
 . subst e'; exact e
 . exact h j hj (by omega)
theorem c33 (k : Int) : PC Try.prog Gl 39 [.int .i64 k] (.bool (!a5b k)) := by
 refine b0o (res := [.tmp 2]) 3 6 [] (fun d ix => d :: ix) (fn := Try.f39) (by kernel_rfl) (by rfl) (by rfl) (by rfl) (by simp) (by decide) ?_
 repeat' first
  | with_reducible refine stp ?_
  | (with_reducible refine stpK ?_; intro K hK)
  | (with_reducible refine stpC ?_; intro T E hT hE)
  | (with_reducible refine stp2 ?_ ?_ <;> intro h)
  | with_reducible first | refine a0q rfl ?_ | refine a1n (c34 _) (by simp [nls, nl, *, a0b, a0e, a0i, a0a, a0c]) ?_ | refine hpc (c34 _) (by simp [nls, nl, *, a0b, a0e, a0i, a0a, a0c]) ?_ | refine a0t rfl (by decide) a0s ?_ | refine a0t rfl (by decide) (a0r (by simp [upd, noH, ext, a5v, a4o, *])) ?_ | refine a1v (by decide) (by kernel_rfl) ?_ | refine a0x (by decide) ?_
  | (with_reducible refine Kont.go hK ?_; clear hK K)
  | ((with_reducible first | refine KT.go hT ?_ | refine KT.go hE ?_); clear hT hE T E)
  | simp [*, -List.all_flatten, -List.all_eq_true, DEFO]
theorem c60 (l : List Int) (hl : l.length <= 2000000) : PC Try.prog Gl 53 [.list 1 (ints l), .clo 39 [] []] (.int .i64 (fidx l)) := by
 refine b0o (res := [.tmp 4]) 6 19 [8, 7] (fun d ix => d :: ix) (fn := Try.f53) (by kernel_rfl) (by rfl) (by rfl) (by rfl) (by simp) (by decide) ?_
 repeat' first
  | ((with_reducible refine a1o ?_); refine a7w (fun y : {i : Nat // i <= l.length /\ kOk l i} => (⟨[.list 1 (ints l), .clo 39 [] [], .undef, .undef, .int .i64 0, .undef], [(7, .int .i64 (l.length : Int)), (8, .int .i64 (y.1 : Int))], hpL [], []⟩ : Fs)) (fun y => l.length - y.1) ⟨0, by simp, g1o l⟩ (a4p [] (fun _ h => h) (by rfl) ?_ ?_ ?_) ?_; (focus (simp [*, SIMF, a0c, a0f, a0m, a1b, a1c, a0b, a0h, a0n, a1g, a1h, a0e, a0j, a0v, a1r, a1s, a0i, a0o, a0u, a1p, a1q, a0a, a0g, a0l, a1e, a1f, List.take_of_length_le, List.filter_append, *]; done)); (focus (simp [*, SIMF, a0c, a0f, a0m, a1b, a1c, a0b, a0h, a0n, a1g, a1h, a0e, a0j, a0v, a1r, a1s, a0i, a0o, a0u, a1p, a1q, a0a, a0g, a0l, a1e, a1f, List.take_of_length_le, List.filter_append]; done)); (focus (simp [*, SIMF, a0c, a0f, a0m, a1b, a1c, a0b, a0h, a0n, a1g, a1h, a0e, a0j, a0v, a1r, a1s, a0i, a0o, a0u, a1p, a1q, a0a, a0g, a0l, a1e, a1f, List.take_of_length_le, List.filter_append, *]; done)); rintro ⟨i, hi, hk⟩; (try dsimp only at hi hk); rcases a1l hi with hlt | ⟨hlt, rfl⟩; have wi := wli hlt (by omega); cases hkb : a5b (l[i]'hlt))
  | ((with_reducible refine a1j ?_); refine a1w (⟨i + 1, by omega, g1n hk hlt hkb⟩) (a4p [] (fun _ h => h) (by rfl) ?_ ?_ ?_) (by dsimp only; omega); (focus (simp [*, SIMF, a0c, a0f, a0m, a1b, a1c, a0b, a0h, a0n, a1g, a1h, a0e, a0j, a0v, a1r, a1s, a0i, a0o, a0u, a1p, a1q, a0a, a0g, a0l, a1e, a1f, List.take_of_length_le, List.filter_append, *]; done)); (focus (simp [*, SIMF, a0c, a0f, a0m, a1b, a1c, a0b, a0h, a0n, a1g, a1h, a0e, a0j, a0v, a1r, a1s, a0i, a0o, a0u, a1p, a1q, a0a, a0g, a0l, a1e, a1f, List.take_of_length_le, List.filter_append, *]; done)); (focus (simp [*, SIMF, a0c, a0f, a0m, a1b, a1c, a0b, a0h, a0n, a1g, a1h, a0e, a0j, a0v, a1r, a1s, a0i, a0o, a0u, a1p, a1q, a0a, a0g, a0l, a1e, a1f, List.take_of_length_le, List.filter_append, *]; done)))
  | with_reducible refine stp ?_
  | (with_reducible refine stpK ?_; intro K hK)
  | (with_reducible refine stpC ?_; intro T E hT hE)
  | (with_reducible refine stp2 ?_ ?_ <;> intro h)
  | with_reducible first | refine a0q rfl ?_ | refine a1n (c33 _) (by simp [nls, nl, *, a0b, a0e, a0i, a0a, a0c]) ?_ | refine hpc (c33 _) (by simp [nls, nl, *, a0b, a0e, a0i, a0a, a0c]) ?_ | refine a0t rfl (by decide) a0s ?_ | refine a0t rfl (by decide) (a0r (by simp [upd, noH, ext, a5v, a4o, *])) ?_ | refine a1v (by decide) (by kernel_rfl) ?_ | refine a0x (by decide) ?_
  | (with_reducible refine Kont.go hK ?_; clear hK K)
  | ((with_reducible first | refine KT.go hT ?_ | refine KT.go hE ?_); clear hT hE T E)
  | simp [*, -List.all_flatten, -List.all_eq_true, DEFO, a0f, a0h, a0j, a0o, a0g, a0c, a0b, a0e, a0i, a0a, a6x, a2r, a3c, b0s, a2x, a2j, Ins.row, FnD.row, Gb.row, a2i, Int.le_sub_one_iff]
 all_goals first
  | (rw [d3x hlt hkb hk]; done)
  | (simp [d3x hlt hkb hk]; done)
  | (simp [d8z (fun j hj => hk j hj hj)]; done)
  | trace_state
theorem c32 (l : List Int) (hl : l.length <= 2000000) : PC Try.prog Gl 38 [.list 1 (ints l), .clo 39 [] []] (.bool (!(l.all a5b))) := by
 refine b0o (res := [.tmp 4]) 5 9 [] (fun d ix => d :: ix) (fn := Try.f38) (by kernel_rfl) (by rfl) (by rfl) (by rfl) (by simp) (by decide) ?_
 repeat' first
  | with_reducible refine stp ?_
  | (with_reducible refine stpK ?_; intro K hK)
  | (with_reducible refine stpC ?_; intro T E hT hE)
  | (with_reducible refine stp2 ?_ ?_ <;> intro h)
  | with_reducible first | refine a0q rfl ?_ | refine a1n (c60 l hl) (by simp [nls, nl, *, a0b, a0e, a0i, a0a, a0c]) ?_ | refine hpc (c60 l hl) (by simp [nls, nl, *, a0b, a0e, a0i, a0a, a0c]) ?_ | refine a0t rfl (by decide) a0s ?_ | refine a0t rfl (by decide) (a0r (by simp [upd, noH, ext, a5v, a4o, *])) ?_ | refine a1v (by decide) (by kernel_rfl) ?_ | refine a0x (by decide) ?_
  | (with_reducible refine Kont.go hK ?_; clear hK K)
  | ((with_reducible first | refine KT.go hT ?_ | refine KT.go hE ?_); clear hT hE T E)
  | simp [*, -List.all_flatten, -List.all_eq_true, DEFO, a0f, a0h, a0j, a0o, a0g, a0c, a0b, a0e, a0i, a0a, a6x, a2r, a3c, b0s, a2x, a2j, Ins.row, FnD.row, Gb.row, a2i, Int.le_sub_one_iff, d3w]
 all_goals first
  | (simp [<- d3w]; done)
  | trace_state
@[simp] theorem f9s : arE Try.prog 30 = Option.none := by kernel_rfl
@[simp] theorem f9m : arE Try.prog 81 = Option.none := by kernel_rfl
@[simp] theorem f9o : arE Try.prog 64 = Option.none := by kernel_rfl
@[simp] theorem f9q : arE Try.prog 47 = Option.none := by kernel_rfl
@[simp] theorem f9h : arT Try.prog 28 = Option.none := by kernel_rfl
@[simp] theorem f9d : arT Try.prog 61 = Option.none := by kernel_rfl
@[simp] theorem f9c : arT Try.prog 62 = Option.none := by kernel_rfl
@[simp] theorem f9b : byT Try.prog 24 = (Option.some 24) := by kernel_rfl
@[simp] theorem f8u : byT Try.prog 67 = (Option.some 8) := by kernel_rfl
@[simp] theorem f8v : byT Try.prog 62 = (Option.some 24) := by kernel_rfl
@[simp] theorem e6q : fldT Try.prog 30 0 = (Option.some 0) := by kernel_rfl
@[simp] theorem e6p : fldT Try.prog 30 1 = (Option.some 1) := by kernel_rfl
@[simp] theorem e6o : fldT Try.prog 30 2 = (Option.some 2) := by kernel_rfl
@[simp] theorem e6a : fldT Try.prog 64 0 = (Option.some 0) := by kernel_rfl
@[simp] theorem e5z : fldT Try.prog 64 1 = (Option.some 4) := by kernel_rfl
@[simp] theorem e5y : fldT Try.prog 64 2 = (Option.some 5) := by kernel_rfl
@[simp] theorem e5x : fldT Try.prog 64 3 = (Option.some 6) := by kernel_rfl
@[simp] theorem e5w : fldT Try.prog 64 4 = (Option.some 7) := by kernel_rfl
@[simp] theorem f4h : fnOk Try.prog 18 = Bool.true := by kernel_rfl
@[simp] theorem f8q : fnOk Try.prog 9 = Bool.true := by kernel_rfl
@[simp] theorem f4l : fnOk Try.prog 14 = Bool.true := by kernel_rfl
@[simp] theorem f4f : fnOk Try.prog 20 = Bool.true := by kernel_rfl
@[simp] theorem f3y : fnOk Try.prog 27 = Bool.true := by kernel_rfl
@[simp] theorem f3v : fnOk Try.prog 30 = Bool.true := by kernel_rfl
@[simp] theorem f3u : fnOk Try.prog 32 = Bool.true := by kernel_rfl
@[simp] theorem f4c : fnOk Try.prog 23 = Bool.true := by kernel_rfl
@[simp] theorem f4d : fnOk Try.prog 22 = Bool.true := by kernel_rfl
@[simp] theorem f3x : fnOk Try.prog 28 = Bool.true := by kernel_rfl
@[simp] theorem f3w : fnOk Try.prog 29 = Bool.true := by kernel_rfl
@[simp] theorem f4e : fnOk Try.prog 21 = Bool.true := by kernel_rfl
@[simp] theorem f3h : fnOk Try.prog 45 = Bool.true := by kernel_rfl
@[simp] theorem f3j : fnOk Try.prog 43 = Bool.true := by kernel_rfl
@[simp] theorem f3i : fnOk Try.prog 44 = Bool.true := by kernel_rfl
@[simp] theorem f3r : fnOk Try.prog 35 = Bool.true := by kernel_rfl
@[simp] theorem f3s : fnOk Try.prog 34 = Bool.true := by kernel_rfl
@[simp] theorem f3t : fnOk Try.prog 33 = Bool.true := by kernel_rfl
@[simp] theorem f2q : fnOk Try.prog 64 = Bool.true := by kernel_rfl
@[simp] theorem f2t : fnOk Try.prog 61 = Bool.true := by kernel_rfl
@[simp] theorem f2s : fnOk Try.prog 62 = Bool.true := by kernel_rfl
@[simp] theorem f2r : fnOk Try.prog 63 = Bool.true := by kernel_rfl
@[simp] theorem f3c : fnOk Try.prog 50 = Bool.true := by kernel_rfl
@[simp] theorem f3g : fnOk Try.prog 46 = Bool.true := by kernel_rfl
@[simp] theorem f3f : fnOk Try.prog 47 = Bool.true := by kernel_rfl
@[simp] theorem f3e : fnOk Try.prog 48 = Bool.true := by kernel_rfl
@[simp] theorem f3d : fnOk Try.prog 49 = Bool.true := by kernel_rfl
@[simp] theorem f2l : fnOk Try.prog 72 = Bool.true := by kernel_rfl
@[simp] theorem f2m : fnOk Try.prog 71 = Bool.true := by kernel_rfl
@[simp] theorem f4m : fnOk Try.prog 13 = Bool.true := by kernel_rfl
@[simp] theorem f2p : fnOk Try.prog 65 = Bool.true := by kernel_rfl
@[simp] theorem f8g : ldT Try.prog 27 = (Option.some Option.none) := by kernel_rfl
@[simp] theorem f8f : ldT Try.prog 28 = (Option.some Option.none) := by kernel_rfl
@[simp] theorem f8e : ldT Try.prog 30 = (Option.some (Option.some 3)) := by kernel_rfl
@[simp] theorem g2m : ldT Try.prog 4 = (Option.some Option.none) := by kernel_rfl
@[simp] theorem f7x : ldT Try.prog 57 = (Option.some Option.none) := by kernel_rfl
@[simp] theorem f7t : ldT Try.prog 67 = (Option.some Option.none) := by kernel_rfl
@[simp] theorem f7q : ldT Try.prog 81 = (Option.some (Option.some 0)) := by kernel_rfl
@[simp] theorem f7s : ldT Try.prog 70 = (Option.some Option.none) := by kernel_rfl
@[simp] theorem f7w : ldT Try.prog 60 = (Option.some Option.none) := by kernel_rfl
@[simp] theorem f7v : ldT Try.prog 61 = (Option.some Option.none) := by kernel_rfl
@[simp] theorem f7u : ldT Try.prog 62 = (Option.some Option.none) := by kernel_rfl
@[simp] theorem c1a : mpT Try.prog 67 = (Option.some (3, 81)) := by kernel_rfl
@[simp] theorem c7j : mpT Try.prog 60 = (Option.some (50, 3)) := by kernel_rfl
@[simp] theorem e2b : a7i Try.prog 30 = (Option.some ((0, 1) :: ((1, 1) :: ((2, 1) :: [])))) := by kernel_rfl
@[simp] theorem e1v : a7i Try.prog 81 = (Option.some []) := by kernel_rfl
@[simp] theorem e1x : a7i Try.prog 64 = (Option.some ((0, 4) :: ((4, 1) :: ((5, 1) :: ((6, 1) :: ((7, 1) :: [])))))) := by kernel_rfl
@[simp] theorem e1z : a7i Try.prog 47 = (Option.some ((0, 1) :: ((1, 1) :: ((2, 1) :: ((3, 1) :: ((4, 1) :: [])))))) := by kernel_rfl
@[simp] theorem f7h : slT Try.prog 28 = (Option.some (24, 1)) := by kernel_rfl
@[simp] theorem f7a : slT Try.prog 67 = Option.none := by kernel_rfl
@[simp] theorem f7c : slT Try.prog 61 = (Option.some (62, 1)) := by kernel_rfl
@[simp] theorem f7b : slT Try.prog 62 = (Option.some (67, 1)) := by kernel_rfl
@[simp] theorem f1y : strT Try.prog 28 = Bool.false := by kernel_rfl
@[simp] theorem f1r : strT Try.prog 67 = Bool.false := by kernel_rfl
@[simp] theorem f1t : strT Try.prog 61 = Bool.false := by kernel_rfl
@[simp] theorem f1s : strT Try.prog 62 = Bool.false := by kernel_rfl
@[simp] theorem f6t : szT Try.prog 28 = (Option.some 1) := by kernel_rfl
@[simp] theorem f6s : szT Try.prog 30 = (Option.some 3) := by kernel_rfl
@[simp] theorem g2f : szT Try.prog 4 = (Option.some 1) := by kernel_rfl
@[simp] theorem f6n : szT Try.prog 50 = (Option.some 2) := by kernel_rfl
@[simp] theorem f6r : szT Try.prog 41 = (Option.some 1) := by kernel_rfl
@[simp] theorem f6l : szT Try.prog 57 = (Option.some 1) := by kernel_rfl
@[simp] theorem f6e : szT Try.prog 81 = (Option.some 0) := by kernel_rfl
@[simp] theorem f6g : szT Try.prog 70 = (Option.some 1) := by kernel_rfl
@[simp] theorem f6k : szT Try.prog 61 = (Option.some 1) := by kernel_rfl
@[simp] theorem f6j : szT Try.prog 62 = (Option.some 1) := by kernel_rfl
@[simp] theorem f6i : szT Try.prog 64 = (Option.some 8) := by kernel_rfl
@[simp] theorem e8i : a6d Try.prog 24 = (Option.some (Go.FM.FV.nils :: [])) := by kernel_rfl
@[simp] theorem e8g : a6d Try.prog 30 = (Option.some (Go.FM.FV.nils :: (Go.FM.FV.nils :: (Go.FM.FV.nils :: [])))) := by kernel_rfl
@[simp] theorem f1m : a6d Try.prog 4 = (Option.some ((Go.FM.FV.bool Bool.false) :: [])) := by kernel_rfl
@[simp] theorem e7y : a6d Try.prog 67 = (Option.some (Go.FM.FV.nilm :: [])) := by kernel_rfl
@[simp] theorem e7w : a6d Try.prog 81 = (Option.some []) := by kernel_rfl
@[simp] theorem e8a : a6d Try.prog 62 = (Option.some (Go.FM.FV.nils :: [])) := by kernel_rfl
@[simp] theorem e7z : a6d Try.prog 64 = (Option.some (Go.FM.FV.nils :: (Go.FM.FV.nils :: (Go.FM.FV.nils :: ((Go.FM.FV.int Go.IntKind.i64 0) :: (Go.FM.FV.nils :: (Go.FM.FV.nilm :: (Go.FM.FV.nils :: (Go.FM.FV.nils :: []))))))))) := by kernel_rfl
@[simp] theorem d3y : c1p Try.prog 3 = (Option.some (Go.FM.FV.int Go.IntKind.i64 0)) := by kernel_rfl
@[simp] theorem c9m : c1p Try.prog 81 = (Option.some (Go.FM.FV.agg [])) := by kernel_rfl
def a5y (l : List (List Int)) : List FV := [.list 1 (lays l)]
def lls (L : List (List (List Int))) : List (List FV) := L.map a5y
theorem a3h (L : List (List (List Int))) : (lls L).length = L.length := by simp [lls]
theorem a8b {L : List (List (List Int))} {i : Nat} (h : i < (lls L).length) : (lls L)[i] = a5y (L[i]'(by rwa [a3h] at h)) := by simp [lls]
theorem c9f (a b : List (List (List Int))) : lls (a ++ b) = lls a ++ lls b := by simp [lls]
theorem e5c (a : List (List Int)) : lls [a] = [a5y a] := rfl
theorem e5d : lls [] = [] := rfl
theorem d7v (n : Nat) (l : List (List (List Int))) : (lls l).take n = lls (l.take n) := by simp [lls, List.map_take]
theorem a2c (L : List (List (List Int))) : nlss (lls L) = true := by
 induction L with
 | nil => rfl
 | cons r rs ih => simpa [lls, nlss, nls, nl, a5y, a0a] using ih
def a8a (s : Int × Int) : List FV := [.int .i64 s.1, .int .i64 s.2]
def sits (L : List (Int × Int)) : List (List FV) := L.map a8a
theorem a2a (L : List (Int × Int)) : (sits L).length = L.length := by simp [sits]
theorem a5e {L : List (Int × Int)} {i : Nat} (h : i < (sits L).length) : (sits L)[i] = a8a (L[i]'(by rwa [a2a] at h)) := by simp [sits]
theorem c3r (a b : List (Int × Int)) : sits (a ++ b) = sits a ++ sits b := by simp [sits]
theorem d6r (a : Int × Int) : sits [a] = [a8a a] := rfl
theorem d6s : sits [] = [] := rfl
theorem a9p (n : Nat) (l : List (Int × Int)) : (sits l).take n = sits (l.take n) := by simp [sits, List.map_take]
theorem a1d (L : List (Int × Int)) : nlss (sits L) = true := by
 induction L with
 | nil => rfl
 | cons r rs ih => simpa [sits, nlss, nls, nl, a8a] using ih
theorem c2s (L : List (Int × Int)) : (sits L).flatten.all FV.cellV = true := by
 induction L with
 | nil => rfl
 | cons r rs ih => simp [sits, FV.cellV, a8a]
theorem szn {n k : Nat} (h : n <= 1000000000) (hk : k <= 100) : (n + n / 4 + 192) * k <= 140737488355328 := by
 have h1 : n + n / 4 + 192 <= 1300000000 := by omega
 have := Nat.mul_le_mul h1 hk
 omega
theorem b3s (l : List (List Int)) {i : Nat} (h : i < l.length) : lays (l.take (i + 1)) = lays (l.take i) ++ [[.list 1 (ints l[i])]] := by
 rw [List.take_add_one, List.getElem?_eq_getElem h, a0l]; rfl
theorem g2c (n : Int) : fMax (.int .i64 0) [.int .i64 n] = some (.int .i64 (mx0 n)) := by simp [fMax, mx0]
theorem wlen (n : Nat) (h : n <= 1000000000) : IntKind.wrap .i64 (1 + (n : Int)) = 1 + (n : Int) := by rw [IntKind.wrap_i64]; omega
theorem b1h (n : Nat) (l : List Int) : (ints l).drop n = ints (l.drop n) := by simp [ints, List.map_drop]
theorem b0z (l : List Int) (i : Nat) : (l.drop i).take (l.length - i) = l.drop i := by rw [List.take_of_length_le]; simp
theorem c5i (l : List Int) {i : Nat} (h : i <= l.length) (a : List FV) : List.take (i + 1) (ints (List.take i l) ++ [a]) = ints (List.take i l) ++ [a] := by
 rw [List.take_of_length_le]; simp [a0f]; omega
theorem c5h (l : List Int) {i : Nat} (h : i <= l.length) (a : List FV) : List.take (l.length + 1) (ints (List.take i l) ++ a :: ints (List.drop i l)) = ints (List.take i l) ++ a :: ints (List.drop i l) := by
 rw [List.take_of_length_le]; simp [a0f]; omega
theorem b3j (l : List Int) (a : List FV) : List.take (l.length + 1) (ints l ++ [a]) = ints l ++ [a] := by
 rw [List.take_of_length_le]; simp [a0f]
theorem b1i (a : Int) (l : List Int) : ints (a :: l) = [.int .i64 a] :: ints l := rfl
theorem c8d {n i : Nat} (h : i <= n) : i + (n - i + 1) = n + 1 := by omega
theorem c3e {n i : Nat} (h : i <= n) : i + 1 + (n - i) = n + 1 := by omega
theorem d9q (a n : Int) : (a < n /\ ¬ a = n) \/ (¬ a < n /\ a = n) \/ (¬ a < n /\ ¬ a = n) := by omega
end Go.He
namespace Go.He
open Go Go.FM Go.Gv Go.Proofs
set_option maxRecDepth 100000
set_option linter.defProp false
theorem e1t {H : Heap} {k : Nat} {xs : List (List FV)} (h : nlss xs = true) : frzR H (k + 1) xs = some xs := by
 unfold frzR
 rw [if_pos h]
def HPXB := And.intro @Go.FM.a2e (And.intro @Go.FM.a1u (And.intro @Go.FM.b6i (And.intro @Go.FM.a4w (And.intro @Go.FM.c1o (And.intro @Go.FM.a2s (And.intro @Go.FM.a2m (And.intro @Go.FM.b3m (And.intro @Go.FM.b1b (@Go.FM.a4y)))))))))
def NLXB := And.intro @Go.FM.nls.eq_1 (And.intro @Go.FM.nls.eq_2 (And.intro @Go.FM.nl.eq_1 (And.intro @Go.FM.nl.eq_2 (And.intro @Go.FM.nl.eq_3 (And.intro @Go.FM.nl.eq_4 (And.intro @Go.FM.nl.eq_5 (And.intro @Go.FM.nl.eq_6 (And.intro @Go.FM.nl.eq_7 (And.intro @Go.FM.nl.eq_8 (And.intro @Go.FM.nl.eq_9 (And.intro @Go.FM.nl.eq_10 (And.intro @Go.FM.nl.eq_11 (And.intro @Go.FM.nl.eq_12 (And.intro @Go.FM.nl.eq_13 (And.intro @Go.FM.nl.eq_14 (And.intro @Go.FM.nl.eq_15 (And.intro @Go.FM.nl.eq_16 (And.intro @Go.FM.nl.eq_17 (And.intro @Go.He.a0c (And.intro @Go.He.a0b (And.intro @Go.He.a0e (And.intro @Go.He.a0i (And.intro @Go.He.a0a (And.intro @Go.He.a2y (And.intro @Go.He.a2c (@Go.He.a1d))))))))))))))))))))))))))
def SIMB := And.intro @Go.FM.d7q (And.intro @Go.FM.e4v (And.intro @Go.FM.f0g (And.intro @Go.FM.e4w (And.intro @Go.FM.mV.eq_def (And.intro @Go.FM.mSl.eq_def (And.intro @Go.FM.mPt.eq_def (And.intro @Go.FM.mMp.eq_def (And.intro @Go.FM.b8q (And.intro @Go.FM.c6m (And.intro @Go.FM.d2f (And.intro @Go.FM.a4r (And.intro @Go.FM.nlss.eq_1 (And.intro @Go.FM.nlss.eq_2 (And.intro @Go.FM.nls.eq_1 (And.intro @Go.FM.nls.eq_2 (And.intro @Go.FM.nl.eq_1 (And.intro @Go.FM.nl.eq_2 (And.intro @Go.FM.nl.eq_3 (And.intro @Go.FM.nl.eq_4 (And.intro @Go.FM.nl.eq_5 (And.intro @Go.FM.nl.eq_6 (And.intro @Go.FM.nl.eq_7 (And.intro @Go.FM.nl.eq_8 (And.intro @Go.FM.nl.eq_9 (And.intro @Go.FM.nl.eq_10 (And.intro @Go.FM.nl.eq_11 (And.intro @Go.FM.nl.eq_12 (And.intro @Go.FM.nl.eq_13 (And.intro @Go.FM.nl.eq_14 (And.intro @Go.FM.nl.eq_15 (And.intro @Go.FM.nl.eq_16 (And.intro @Go.FM.nl.eq_17 (And.intro @Go.FM.b0a.eq_1 (And.intro @Go.FM.b0a.eq_2 (And.intro @Go.FM.b0a.eq_3 (And.intro @Go.FM.simV.eq_def (And.intro @Go.FM.simT.eq_1 (And.intro @Go.FM.simT.eq_2 (And.intro @Go.FM.simH.eq_1 (And.intro @Go.FM.simH.eq_2 (And.intro @Go.FM.simO.eq_def (And.intro @Go.FM.renO.eq_def (And.intro @Go.FM.innO.eq_def (And.intro @Go.FM.ren.eq_1 (And.intro @Go.FM.ren.eq_2 (And.intro @Go.FM.ren.eq_3 (And.intro @Go.FM.ren.eq_4 (And.intro @Go.FM.ren.eq_5 (And.intro @Go.FM.ren.eq_6 (And.intro @Go.FM.ren.eq_7 (And.intro @Go.FM.inn.eq_1 (And.intro @Go.FM.inn.eq_2 (And.intro @Go.FM.inn.eq_3 (And.intro @Go.FM.inn.eq_4 (And.intro @Go.FM.inn.eq_5 (And.intro @Go.FM.inn.eq_6 (And.intro @Go.FM.inn.eq_7 (And.intro @Go.FM.inn.eq_8 (And.intro @Go.FM.inn.eq_9 (And.intro @Go.FM.rens.eq_1 (And.intro @Go.FM.rens.eq_2 (And.intro @Go.FM.inns.eq_1 (And.intro @Go.FM.inns.eq_2 (And.intro @Go.FM.renss.eq_1 (And.intro @Go.FM.renss.eq_2 (And.intro @Go.FM.a8m.eq_1 (And.intro @Go.FM.a8m.eq_2 (And.intro @Go.FM.rene.eq_1 (And.intro @Go.FM.rene.eq_2 (And.intro @Go.FM.inne.eq_1 (And.intro @Go.FM.inne.eq_2 (And.intro @Go.FM.bk.eq_1 (And.intro @Go.FM.bk.eq_2 (And.intro @Go.FM.lk.eq_1 (And.intro @Go.FM.lk.eq_2 (And.intro @Go.FM.a2e (And.intro @Go.FM.a1u (And.intro @Go.FM.b6i (And.intro @Go.FM.a4w (And.intro @Go.FM.c1o (And.intro @Go.FM.a2s (And.intro @Go.FM.a2m (And.intro @Go.FM.b3m (And.intro @Go.FM.b1b (And.intro @Go.FM.a4y (And.intro @List.cons_append.{0} (And.intro @List.nil_append.{0} (And.intro @List.append_nil.{0} (And.intro @Go.FM.c6d (And.intro @Go.FM.c6u (And.intro @Go.FM.b1d (And.intro @Go.FM.b1k (And.intro @Go.He.a0c (And.intro @Go.He.a0f (And.intro @Go.He.a0m (And.intro @Go.He.a1b (And.intro @Go.He.a1c (And.intro @Go.He.a4e (And.intro @Go.He.a0b (And.intro @Go.He.a0h (And.intro @Go.He.a0n (And.intro @Go.He.a1g (And.intro @Go.He.a1h (And.intro @Go.He.d2u (And.intro @Go.He.a0e (And.intro @Go.He.a0j (And.intro @Go.He.a0v (And.intro @Go.He.a1r (And.intro @Go.He.a1s (And.intro @Go.He.d8s (And.intro @Go.He.a0i (And.intro @Go.He.a0o (And.intro @Go.He.a0u (And.intro @Go.He.a1p (And.intro @Go.He.a1q (And.intro @Go.He.d8n (And.intro @Go.He.a0a (And.intro @Go.He.a0g (And.intro @Go.He.a0l (And.intro @Go.He.a1e (And.intro @Go.He.a1f (And.intro @Go.He.a9u (And.intro @Go.He.a2y (And.intro @Go.He.a2k (And.intro @Go.He.a2t (And.intro @Go.He.a4m (And.intro @Go.He.a4h (And.intro @Go.He.a3q (And.intro @Go.He.a2c (And.intro @Go.He.a3h (And.intro @Go.He.c9f (And.intro @Go.He.e5c (And.intro @Go.He.e5d (And.intro @Go.He.d7v (And.intro @Go.He.a1d (And.intro @Go.He.a2a (And.intro @Go.He.c3r (And.intro @Go.He.d6r (And.intro @Go.He.d6s (And.intro @Go.He.a9p (And.intro @Go.He.a8a.eq_def (And.intro @List.take_take.{0} (And.intro @Nat.min_self (And.intro @List.length_append.{0} (And.intro @List.take_of_length_le.{0} (@List.filter_append.{0}))))))))))))))))))))))))))))))))))))))))))))))))))))))))))))))))))))))))))))))))))))))))))))))))))))))))))))))))))))))))))))))))))))))))))))))))))
def LPXB := And.intro @Go.FM.b9r (And.intro @Go.FM.b6v (And.intro @List.set_cons_zero.{0} (And.intro @List.set_cons_succ.{0} (And.intro @Go.FM.b6w (And.intro @Go.FM.b4h (And.intro @Go.FM.b3m (And.intro @Go.FM.b1b (And.intro @Go.FM.c1e (And.intro @Go.FM.b7z (And.intro @Go.FM.c1d (And.intro @Go.FM.a9l.eq_def (And.intro @List.map_cons.{0,0} (And.intro @List.map_nil.{0,0} (And.intro @Go.FM.lk.eq_1 (And.intro @Go.FM.lk.eq_2 (And.intro @List.nil_append.{0} (And.intro @List.cons_append.{0} (And.intro @List.append_nil.{0} (And.intro @List.contains_cons.{0} (And.intro @List.contains_nil.{0} (@List.cons.injEq.{0})))))))))))))))))))))
def LENB := And.intro @Go.He.a0f (And.intro @Go.He.a0c (And.intro @Go.He.a6x (And.intro @Go.He.a0h (And.intro @Go.He.a0b (And.intro @Go.He.a2r (And.intro @Go.He.a0j (And.intro @Go.He.a0e (And.intro @Go.He.a3c (And.intro @Go.He.a0o (And.intro @Go.He.a0i (And.intro @Go.He.b0s (And.intro @Go.He.a0g (And.intro @Go.He.a0a (And.intro @Go.He.a2x (And.intro @Go.He.a3h (And.intro @Go.He.a2c (And.intro @Go.He.a8b (And.intro @Go.He.a2a (And.intro @Go.He.a1d (And.intro @Go.He.a5e (And.intro @Go.He.a2j.eq_def (And.intro @Go.Gv.Ins.row.eq_def (And.intro @Go.Gv.FnD.row.eq_def (And.intro @Go.Gv.Gb.row.eq_def (And.intro @Go.He.a2i.eq_def (And.intro @Go.He.a5y.eq_def (@Go.He.a8a.eq_def)))))))))))))))))))))))))))
def DEFB := And.intro @Go.FM.b3a (And.intro @Go.FM.Fs.init.eq_def (And.intro @Go.FM.Fs.get.eq_def (And.intro @Go.FM.Fs.put.eq_def (And.intro @Go.FM.Fs.clean.eq_def (And.intro @Go.FM.lk.eq_1 (And.intro @Go.FM.lk.eq_2 (And.intro @Go.FM.upd.eq_def (And.intro @Go.FM.ext.eq_def (And.intro @Go.FM.cv1.eq_def (And.intro @Go.FM.cv.eq_def (And.intro @Go.FM.rv.eq_def (And.intro @Go.FM.FV.isU.eq_def (And.intro @Go.FM.FV.cellV.eq_def (And.intro @Go.FM.FV.cellsL.eq_def (And.intro @Go.FM.FV.storable.eq_def (And.intro @Go.FM.b5n.eq_def (And.intro @Go.FM.b7w.eq_def (And.intro @Go.FM.b7v.eq_def (And.intro @Go.FM.fLen.eq_def (And.intro @Go.FM.fBin.eq_def (And.intro @Go.FM.fUn.eq_def (And.intro @Go.FM.c4o.eq_def (And.intro @Go.FM.b8g.eq_def (And.intro @Go.FM.b7u.eq_def (And.intro @Go.FM.a9h.eq_1 (And.intro @Go.FM.a9h.eq_2 (And.intro @Go.FM.b3y.eq_1 (And.intro @Go.FM.b3y.eq_2 (And.intro @Go.FM.pv.eq_def (And.intro @Go.FM.pv1.eq_def (And.intro @Go.FM.pv2.eq_def (And.intro @Go.FM.wv.eq_def (And.intro @Go.FM.b5c.eq_def (And.intro @Go.FM.wBox.eq_def (And.intro @Go.FM.b5a.eq_def (And.intro @Go.FM.a8g.eq_def (And.intro @Go.FM.b5b.eq_def (And.intro @Go.FM.b3h.eq_def (And.intro @Go.FM.b2v.eq_def (And.intro @Go.FM.wApp.eq_def (And.intro @Go.FM.srcA.eq_def (And.intro @Go.FM.a7u.eq_1 (And.intro @Go.FM.a7u.eq_2 (And.intro @Go.FM.upds.eq_def (And.intro @List.foldl_cons.{0,0} (And.intro @List.foldl_nil.{0,0} (And.intro @Go.FM.b3z.eq_def (And.intro @Go.FM.fNil.eq_def (And.intro @Go.FM.fUn2.eq_def (And.intro @Go.FM.c4p.eq_def (And.intro @Go.FM.fCmp.eq_def (And.intro @Go.FM.c2p.eq_def (And.intro @Go.FM.eqK.eq_1 (And.intro @Go.FM.eqK.eq_2 (And.intro @Go.FM.a4u.eq_1 (And.intro @Go.FM.a4u.eq_2 (And.intro @Go.FM.a4u.eq_3 (And.intro @Go.FM.eqV.eq_1 (And.intro @Go.FM.eqV.eq_2 (And.intro @Go.FM.eqV.eq_3 (And.intro @Go.FM.eqV.eq_4 (And.intro @Go.FM.FV.kd.eq_def (And.intro @Go.FM.c4q.eq_def (And.intro @Go.FM.nilV.eq_def (And.intro @Go.FM.putD.eq_def (And.intro @Go.FM.a2l.eq_def (And.intro @Go.FM.a3b.eq_def (And.intro @Go.FM.b2j.eq_1 (And.intro @Go.FM.b2j.eq_2 (And.intro @Go.FM.a5l.eq_def (And.intro @Go.FM.b8i.eq_def (And.intro @Go.FM.resV.eq_def (And.intro @Go.FM.resL.eq_1 (And.intro @Go.FM.resL.eq_2 (And.intro @Go.FM.a2u.eq_def (And.intro @Go.FM.StK.eq_def (And.intro @Go.FM.b5s (And.intro @Go.FM.b3g (And.intro @Go.FM.e0g (And.intro @Go.FM.e0h (And.intro @Go.FM.c8i (And.intro @Go.FM.c8j (And.intro @Go.FM.c2k.eq_def (And.intro @Go.FM.HG_t (And.intro @Go.FM.HG_f (And.intro @Go.FM.e0e (And.intro @Go.FM.e0f (And.intro @Go.FM.nl.eq_1 (And.intro @Go.FM.nl.eq_2 (And.intro @Go.FM.nl.eq_3 (And.intro @Go.FM.nl.eq_4 (And.intro @Go.FM.nl.eq_5 (And.intro @Go.FM.nl.eq_6 (And.intro @Go.FM.nl.eq_7 (And.intro @Go.FM.nl.eq_8 (And.intro @Go.FM.nl.eq_9 (And.intro @Go.FM.nl.eq_10 (And.intro @Go.FM.nl.eq_11 (And.intro @Go.FM.nl.eq_12 (And.intro @Go.FM.nl.eq_13 (And.intro @Go.FM.nl.eq_14 (And.intro @Go.FM.nl.eq_15 (And.intro @Go.FM.nl.eq_16 (And.intro @Go.FM.nl.eq_17 (And.intro @Go.FM.nls.eq_1 (And.intro @Go.FM.nls.eq_2 (And.intro @Go.FM.nlss.eq_1 (And.intro @Go.FM.nlss.eq_2 (And.intro @Go.FM.frz.eq_1 (And.intro @Go.FM.frz.eq_2 (And.intro @Go.FM.frz.eq_3 (And.intro @Go.FM.frz.eq_4 (And.intro @Go.FM.frz.eq_5 (And.intro @Go.FM.frzs.eq_1 (And.intro @Go.FM.frzs.eq_2 (And.intro @Go.FM.frzs.eq_3 (And.intro @Go.FM.frzR.eq_1 (And.intro @Go.FM.frzR.eq_2 (And.intro @Go.FM.frzR.eq_3 (And.intro @e1t (And.intro @Go.FM.asR.eq_1 (And.intro @Go.FM.asR.eq_2 (And.intro @Go.FM.asR.eq_3 (And.intro @Go.FM.asR.eq_4 (And.intro @Go.FM.asRs.eq_1 (And.intro @Go.FM.asRs.eq_2 (And.intro @Go.FM.Fend.eq_def (And.intro @Go.FM.c8f (And.intro @Go.FM.b6g (And.intro @Go.FM.b3w (And.intro @Go.FM.frzN.eq_def (And.intro @Go.FM.nf.eq_1 (And.intro @Go.FM.nf.eq_2 (And.intro @Go.FM.nf.eq_3 (And.intro @Go.FM.nf.eq_4 (And.intro @Go.FM.nf.eq_5 (And.intro @Go.FM.nf.eq_6 (And.intro @Go.FM.nf.eq_7 (And.intro @Go.FM.nf.eq_8 (And.intro @Go.FM.nf.eq_9 (And.intro @Go.FM.nf.eq_10 (And.intro @Go.FM.nf.eq_11 (And.intro @Go.FM.nf.eq_12 (And.intro @Go.FM.nf.eq_13 (And.intro @Go.FM.nf.eq_14 (And.intro @Go.FM.nf.eq_15 (And.intro @Go.FM.nf.eq_16 (And.intro @Go.FM.nf.eq_17 (And.intro @Go.FM.nfs.eq_1 (And.intro @Go.FM.nfs.eq_2 (And.intro @Go.FM.b0i.eq_def (And.intro @Go.FM.b4t.eq_def (And.intro @Go.FM.a2e (And.intro @Go.FM.a1u (And.intro @Go.FM.b6i (And.intro @Go.FM.a4w (And.intro @Go.FM.c1o (And.intro @Go.FM.a2s (And.intro @Go.FM.a2m (And.intro @Go.FM.b3m (And.intro @Go.FM.b1b (And.intro @Go.FM.a4y (And.intro @Go.FM.b4s.eq_def (And.intro @Go.FM.lpS.eq_def (And.intro @Go.FM.b9r (And.intro @Go.FM.b6v (And.intro @List.set_cons_zero.{0} (And.intro @List.set_cons_succ.{0} (And.intro @Go.FM.b6w (And.intro @Go.FM.b4h (And.intro @Go.FM.c1e (And.intro @Go.FM.b7z (And.intro @Go.FM.c1d (And.intro @Go.FM.a9l.eq_def (And.intro @List.cons.injEq.{0} (@List.contains_cons.{0}))))))))))))))))))))))))))))))))))))))))))))))))))))))))))))))))))))))))))))))))))))))))))))))))))))))))))))))))))))))))))))))))))))))))))))))))))))))))))))))))))))))))))))))))
def DEFM := And.intro @Go.FM.b3a (And.intro @Go.FM.Fs.init.eq_def (And.intro @Go.FM.Fs.get.eq_def (And.intro @Go.FM.Fs.put.eq_def (And.intro @Go.FM.Fs.clean.eq_def (And.intro @Go.FM.lk.eq_1 (And.intro @Go.FM.lk.eq_2 (And.intro @Go.FM.upd.eq_def (And.intro @Go.FM.ext.eq_def (And.intro @Go.FM.cv1.eq_def (And.intro @Go.FM.cv.eq_def (And.intro @Go.FM.rv.eq_def (And.intro @Go.FM.FV.isU.eq_def (And.intro @Go.FM.FV.cellV.eq_def (And.intro @Go.FM.FV.cellsL.eq_def (And.intro @Go.FM.FV.storable.eq_def (And.intro @Go.FM.b5n.eq_def (And.intro @Go.FM.b7w.eq_def (And.intro @Go.FM.b7v.eq_def (And.intro @Go.FM.fLen.eq_def (And.intro @Go.FM.fBin.eq_def (And.intro @Go.FM.fUn.eq_def (And.intro @Go.FM.c4o.eq_def (And.intro @Go.FM.b8g.eq_def (And.intro @Go.FM.b7u.eq_def (And.intro @Go.FM.a9h.eq_1 (And.intro @Go.FM.a9h.eq_2 (And.intro @Go.FM.b3y.eq_1 (And.intro @Go.FM.b3y.eq_2 (And.intro @Go.FM.pv.eq_def (And.intro @Go.FM.pv1.eq_def (And.intro @Go.FM.pv2.eq_def (And.intro @Go.FM.wv.eq_def (And.intro @Go.FM.b5c.eq_def (And.intro @Go.FM.wBox.eq_def (And.intro @Go.FM.b5a.eq_def (And.intro @Go.FM.a8g.eq_def (And.intro @Go.FM.b5b.eq_def (And.intro @Go.FM.b3h.eq_def (And.intro @Go.FM.wApp.eq_def (And.intro @Go.FM.srcA.eq_def (And.intro @Go.FM.a7u.eq_1 (And.intro @Go.FM.a7u.eq_2 (And.intro @Go.FM.upds.eq_def (And.intro @List.foldl_cons.{0,0} (And.intro @List.foldl_nil.{0,0} (And.intro @Go.FM.fNil.eq_def (And.intro @Go.FM.fUn2.eq_def (And.intro @Go.FM.c4p.eq_def (And.intro @Go.FM.fCmp.eq_def (And.intro @Go.FM.c2p.eq_def (And.intro @Go.FM.eqK.eq_1 (And.intro @Go.FM.eqK.eq_2 (And.intro @Go.FM.a4u.eq_1 (And.intro @Go.FM.a4u.eq_2 (And.intro @Go.FM.a4u.eq_3 (And.intro @Go.FM.eqV.eq_1 (And.intro @Go.FM.eqV.eq_2 (And.intro @Go.FM.eqV.eq_3 (And.intro @Go.FM.eqV.eq_4 (And.intro @Go.FM.FV.kd.eq_def (And.intro @Go.FM.c4q.eq_def (And.intro @Go.FM.nilV.eq_def (And.intro @Go.FM.putD.eq_def (And.intro @Go.FM.a2l.eq_def (And.intro @Go.FM.a3b.eq_def (And.intro @Go.FM.b2j.eq_1 (And.intro @Go.FM.b2j.eq_2 (And.intro @Go.FM.a5l.eq_def (And.intro @Go.FM.b8i.eq_def (And.intro @Go.FM.resV.eq_def (And.intro @Go.FM.resL.eq_1 (And.intro @Go.FM.resL.eq_2 (And.intro @Go.FM.a2u.eq_def (And.intro @Go.FM.StK.eq_def (And.intro @Go.FM.b5s (And.intro @Go.FM.b3g (And.intro @Go.FM.e0g (And.intro @Go.FM.e0h (And.intro @Go.FM.c8i (And.intro @Go.FM.c8j (And.intro @Go.FM.c2k.eq_def (And.intro @Go.FM.HG_t (And.intro @Go.FM.HG_f (And.intro @Go.FM.e0e (And.intro @Go.FM.e0f (And.intro @Go.FM.nl.eq_1 (And.intro @Go.FM.nl.eq_2 (And.intro @Go.FM.nl.eq_3 (And.intro @Go.FM.nl.eq_4 (And.intro @Go.FM.nl.eq_5 (And.intro @Go.FM.nl.eq_6 (And.intro @Go.FM.nl.eq_7 (And.intro @Go.FM.nl.eq_8 (And.intro @Go.FM.nl.eq_9 (And.intro @Go.FM.nl.eq_10 (And.intro @Go.FM.nl.eq_11 (And.intro @Go.FM.nl.eq_12 (And.intro @Go.FM.nl.eq_13 (And.intro @Go.FM.nl.eq_14 (And.intro @Go.FM.nl.eq_15 (And.intro @Go.FM.nl.eq_16 (And.intro @Go.FM.nl.eq_17 (And.intro @Go.FM.nls.eq_1 (And.intro @Go.FM.nls.eq_2 (And.intro @Go.FM.nlss.eq_1 (And.intro @Go.FM.nlss.eq_2 (And.intro @Go.FM.frz.eq_1 (And.intro @Go.FM.frz.eq_2 (And.intro @Go.FM.frz.eq_3 (And.intro @Go.FM.frz.eq_4 (And.intro @Go.FM.frz.eq_5 (And.intro @Go.FM.frzs.eq_1 (And.intro @Go.FM.frzs.eq_2 (And.intro @Go.FM.frzs.eq_3 (And.intro @Go.FM.frzR.eq_1 (And.intro @Go.FM.frzR.eq_2 (And.intro @Go.FM.frzR.eq_3 (And.intro @e1t (And.intro @Go.FM.asR.eq_1 (And.intro @Go.FM.asR.eq_2 (And.intro @Go.FM.asR.eq_3 (And.intro @Go.FM.asR.eq_4 (And.intro @Go.FM.asRs.eq_1 (And.intro @Go.FM.asRs.eq_2 (And.intro @Go.FM.Fend.eq_def (And.intro @Go.FM.c8f (And.intro @Go.FM.b6g (And.intro @Go.FM.b3w (And.intro @Go.FM.frzN.eq_def (And.intro @Go.FM.nf.eq_1 (And.intro @Go.FM.nf.eq_2 (And.intro @Go.FM.nf.eq_3 (And.intro @Go.FM.nf.eq_4 (And.intro @Go.FM.nf.eq_5 (And.intro @Go.FM.nf.eq_6 (And.intro @Go.FM.nf.eq_7 (And.intro @Go.FM.nf.eq_8 (And.intro @Go.FM.nf.eq_9 (And.intro @Go.FM.nf.eq_10 (And.intro @Go.FM.nf.eq_11 (And.intro @Go.FM.nf.eq_12 (And.intro @Go.FM.nf.eq_13 (And.intro @Go.FM.nf.eq_14 (And.intro @Go.FM.nf.eq_15 (And.intro @Go.FM.nf.eq_16 (And.intro @Go.FM.nf.eq_17 (And.intro @Go.FM.nfs.eq_1 (And.intro @Go.FM.nfs.eq_2 (And.intro @Go.FM.b0i.eq_def (And.intro @Go.FM.b4t.eq_def (And.intro @Go.FM.a2e (And.intro @Go.FM.a1u (And.intro @Go.FM.b6i (And.intro @Go.FM.a4w (And.intro @Go.FM.c1o (And.intro @Go.FM.a2s (And.intro @Go.FM.a2m (And.intro @Go.FM.b3m (And.intro @Go.FM.b1b (And.intro @Go.FM.a4y (And.intro @Go.FM.b4s.eq_def (And.intro @Go.FM.lpS.eq_def (And.intro @Go.FM.b9r (And.intro @Go.FM.b6v (And.intro @List.set_cons_zero.{0} (And.intro @List.set_cons_succ.{0} (And.intro @Go.FM.b6w (And.intro @Go.FM.b4h (And.intro @Go.FM.c1e (And.intro @Go.FM.b7z (And.intro @Go.FM.c1d (And.intro @Go.FM.a9l.eq_def (And.intro @List.cons.injEq.{0} (@List.contains_cons.{0}))))))))))))))))))))))))))))))))))))))))))))))))))))))))))))))))))))))))))))))))))))))))))))))))))))))))))))))))))))))))))))))))))))))))))))))))))))))))))))))))))))))))))))))
end Go.He
namespace Go.He
open Go Go.FM Go.Gv Go.Proofs
set_option maxRecDepth 100000
set_option maxHeartbeats 40000000
theorem d6k (l : List Int) (n : Int) (hl : l.length <= 1000000000) : PC Try.prog Gl 72 [.list 1 (ints l), .int .i64 n] (.bool (hasI l n)) := by
 refine a3w (res := [.tmp 4]) 6 18 [] (fun d ix => 0 :: d :: ix) (fn := Try.f72) (by kernel_rfl) (by rfl) (by rfl) (by rfl) (by simp) (by decide) ?_
 repeat' first
  | ((with_reducible refine a1o ?_); refine a2h (σ := {i : Nat // i <= l.length /\ noI l n i}) (fun y => [(5, .int .i64 (y.1 : Int))]) [] (fun y => []) [] (fun y => []) (fun y => noH) (fun y => l.length - y.1) ⟨0, by simp, g1e l n⟩ (gk3 (j := 0) [] (Bs.pc _) ?_ ?_ ?_ ?_ ?_ ?_ ?_) ?_; (iterate 7 (focus (first | rfl | (simp [LPXB, *, SIMB, hdN, injB]; done)))); rintro ⟨i, hi, hk⟩; simp only [lpS, LPXB]; (try dsimp only at hi hk); rcases a1l hi with hlt | ⟨hlt, rfl⟩; have wi := wli hlt (by omega); by_cases he : (l[i]'hlt) = n)
  | ((with_reducible refine a1j ?_); refine a1w (⟨i + 1, by omega, g1d hk hlt he⟩) (gk3 (j := 0) [] (Bs.pc _) ?_ ?_ ?_ ?_ ?_ ?_ ?_) ?_; (iterate 7 (focus (first | rfl | (simp [LPXB, *, SIMB, hdN, injB]; done)))); (focus (dsimp only; omega)))
  | with_reducible refine stp ?_
  | (with_reducible refine stpK ?_; intro K hK)
  | (with_reducible refine stpC ?_; intro T E hT hE)
  | (with_reducible refine stp2 ?_ ?_ <;> intro h)
  | with_reducible first | refine a0q rfl ?_ | refine a0t rfl (Nat.le_of_ble_eq_true rfl) a0s ?_ | refine a0t rfl (Nat.le_of_ble_eq_true rfl) (a0r (by simp [HPXB, ext, upd, *])) ?_ | refine a1v (by decide) (by kernel_rfl) ?_ | refine a0x (by decide) ?_
  | (with_reducible refine Kont.go hK ?_; clear hK K)
  | ((with_reducible first | refine KT.go hT ?_ | refine KT.go hE ?_); clear hT hE T E)
  | simp [*, -List.all_flatten, -List.all_eq_true, DEFB, LENB]
 all_goals first
  | (rw [d3e hlt he]; done)
  | (simp [d3e hlt he]; done)
  | (rw [d3d hk]; done)
  | (simp [d3d hk]; done)
  | trace_state
theorem e0o (a b : List Int) (ha : a.length <= 1000000000) : PC Try.prog Gl 20 [.list 1 (ints a), .list 1 (ints b)] (.bool (decide (a = b))) := by
 by_cases hab : a.length = b.length
 all_goals
  refine a3w (res := [.tmp 4]) 6 26 [] (fun d ix => 0 :: d :: ix) (fn := Try.f20) (by kernel_rfl) (by rfl) (by rfl) (by rfl) (by simp) (by decide) ?_
  repeat' first
   | ((with_reducible refine a1o ?_); refine a2h (σ := {i : Nat // i <= a.length /\ eqTo a b i}) (fun y => [(5, .int .i64 (y.1 : Int))]) [] (fun y => []) [] (fun y => []) (fun y => noH) (fun y => a.length - y.1) ⟨0, by simp, f4z a b⟩ (gk3 (j := 0) [] (Bs.pc _) ?_ ?_ ?_ ?_ ?_ ?_ ?_) ?_; (iterate 7 (focus (first | rfl | (simp [LPXB, *, SIMB, hdN, injB]; done)))); rintro ⟨i, hi, hk⟩; simp only [lpS, LPXB]; (try dsimp only at hi hk); rcases a1l hi with hlt | ⟨hlt, rfl⟩; have hlt2 : i < b.length := (by omega); have wi := wli hlt (by omega); by_cases he : (a[i]'hlt) = (b[i]'hlt2))
   | ((with_reducible refine a1j ?_); refine a1w (⟨i + 1, by omega, f4y hk hlt hlt2 he⟩) (gk3 (j := 0) [] (Bs.pc _) ?_ ?_ ?_ ?_ ?_ ?_ ?_) ?_; (iterate 7 (focus (first | rfl | (simp [LPXB, *, SIMB, hdN, injB]; done)))); (focus (dsimp only; omega)))
   | with_reducible first | refine a0p (id := 6) 9 a0k (by kernel_rfl) fun K hK => ?_ | refine stp ?_
   | (with_reducible refine stpK ?_; intro K hK)
   | (with_reducible refine stpC ?_; intro T E hT hE)
   | (with_reducible refine stp2 ?_ ?_ <;> intro h)
   | with_reducible first | refine a0q rfl ?_ | refine a0t rfl (Nat.le_of_ble_eq_true rfl) a0s ?_ | refine a0t rfl (Nat.le_of_ble_eq_true rfl) (a0r (by simp [HPXB, ext, upd, *])) ?_ | refine a1v (by decide) (by kernel_rfl) ?_ | refine a0x (by decide) ?_
   | (with_reducible refine Kont.go hK ?_; clear hK K)
   | ((with_reducible first | refine KT.go hT ?_ | refine KT.go hE ?_); clear hT hE T E)
   | simp [*, -List.all_flatten, -List.all_eq_true, DEFB, LENB, a5s]
  all_goals first
   | (have e := g1g hlt hlt2 he; simp [e]; done)
   | (have e := d9i hab hk; simp [e]; done)
   | (have e : ¬ a = b := fun e => hab (by rw [e]); simp [e]; done)
   | trace_state
theorem b6p (n : Int) : PC Try.prog Gl 50 [.int .i64 n] (.bool (alO n)) := by
 rcases c3d n with ⟨h1, h2⟩ | ⟨h1, h2, h3⟩ | ⟨h1, h2, h3, h4⟩ | ⟨h1, h2, h3, h4, h5⟩ | ⟨h1, h2, h3, h4, h5⟩
 all_goals
  refine a3w (res := [.tmp 2]) 3 17 [] (fun d ix => 0 :: d :: ix) (fn := Try.f50) (by kernel_rfl) (by rfl) (by rfl) (by rfl) (by simp) (by decide) ?_
  repeat' first
   | with_reducible refine stp ?_
   | (with_reducible refine stpK ?_; intro K hK)
   | (with_reducible refine stpC ?_; intro T E hT hE)
   | (with_reducible refine stp2 ?_ ?_ <;> intro h)
   | with_reducible first | refine a0q rfl ?_ | refine a0t rfl (Nat.le_of_ble_eq_true rfl) a0s ?_ | refine a0t rfl (Nat.le_of_ble_eq_true rfl) (a0r (by simp [HPXB, ext, upd, *])) ?_ | refine a1v (by decide) (by kernel_rfl) ?_ | refine a0x (by decide) ?_
   | (with_reducible refine Kont.go hK ?_; clear hK K)
   | ((with_reducible first | refine KT.go hT ?_ | refine KT.go hE ?_); clear hT hE T E)
   | simp [*, -List.all_flatten, -List.all_eq_true, DEFB]
  all_goals first
   | (simp [alO]; done)
   | trace_state
@[simp] theorem b2f : Program.eqGuardType Try.prog (Program.depth Try.prog) 41 = Bool.false := by kernel_rfl
@[simp] theorem e8l : c1h Try.prog 41 = Bool.false := by kernel_rfl
@[simp] theorem f4k : fnOk Try.prog 15 = Bool.true := by kernel_rfl
@[simp] theorem f2j : intT Try.prog 41 = Option.none := by kernel_rfl
@[simp] theorem f8l : kdT Try.prog 41 = Option.none := by kernel_rfl
@[simp] theorem f2f : nilT Try.prog 41 = (Option.some Go.FM.NK.sl) := by kernel_rfl
@[simp] theorem f7d : slT Try.prog 57 = Option.none := by kernel_rfl
@[simp] theorem f6y : stT Try.prog 41 = Option.none := by kernel_rfl
@[simp] theorem f1u : strT Try.prog 57 = Bool.false := by kernel_rfl
@[simp] theorem f6h : szT Try.prog 67 = (Option.some 1) := by kernel_rfl
theorem c66 (p : Pg) (f : FnD) (x : Ins) (hc : f.code.length <= 2000000) (hf : p.funcs.length <= 2000000) (hg : p.globals.length <= 2000000) (hl : p.layouts.length <= 2000000) : PC Try.prog Gl 36 [.agg [.list 4 (fns p.funcs), .list 2 (gbs p.globals), .list 1 (lays p.layouts), .int .i64 p.main], .agg [.str f.name, .int .i64 f.params, .int .i64 f.regs, .list 5 (inss f.code)], .agg [.int .i64 x.op, .int .i64 x.a, .int .i64 x.b, .int .i64 x.c, .int .i64 x.d]] (.bool (b0q p f x)) := by
 by_cases ho : 1 <= x.op /\ x.op <= 52
 obtain ⟨⟨i1, i2, i3⟩, ⟨j1, j2, j3⟩, j4⟩ := e0l ho
 all_goals
  refine b0o (res := [.tmp 6]) 8 89 [] (fun d ix => d :: ix) (fn := Try.f36) (by kernel_rfl) (by rfl) (by rfl) (by rfl) (by simp) (by decide) ?_
  repeat' first
   | with_reducible refine stp ?_
   | (with_reducible refine stpK ?_; intro K hK)
   | (with_reducible refine stpC ?_; intro T E hT hE)
   | (with_reducible refine stp2 ?_ ?_ <;> intro h)
   | with_reducible first | refine a0p (id := 2) 40 a0k (by kernel_rfl) fun K hK => ?_ | refine a0q rfl ?_ | refine a1n (c7w _ ho) (by simp [nls, nl, *, a0b, a0e, a0i, a0a, a0c]) ?_ | refine hpc (c7w _ ho) (by simp [nls, nl, *, a0b, a0e, a0i, a0a, a0c]) ?_ | refine a1n (d4y _ ho) (by simp [nls, nl, *, a0b, a0e, a0i, a0a, a0c]) ?_ | refine hpc (d4y _ ho) (by simp [nls, nl, *, a0b, a0e, a0i, a0a, a0c]) ?_ | refine a1n (c114 p f x _ _ hc hf hg hl) (by simp [nls, nl, *, a0b, a0e, a0i, a0a, a0c]) ?_ | refine hpc (c114 p f x _ _ hc hf hg hl) (by simp [nls, nl, *, a0b, a0e, a0i, a0a, a0c]) ?_ | refine a0t rfl (by decide) a0s ?_ | refine a0t rfl (by decide) (a0r (by simp [upd, noH, ext, a5v, a4o, *])) ?_ | refine a1v (by decide) (by kernel_rfl) ?_ | refine a0x (by decide) ?_
   | (with_reducible refine Kont.go hK ?_; clear hK K)
   | ((with_reducible first | refine KT.go hT ?_ | refine KT.go hE ?_); clear hT hE T E)
   | simp [*, -List.all_flatten, -List.all_eq_true, DEFO, -Bool.decide_and, eqV, a0f, a0h, a0j, a0o, a0g, a0c, a0b, a0e, a0i, a0a, a6x, a2r, a3c, b0s, a2x, a2j, Ins.row, FnD.row, Gb.row, a2i, Int.le_sub_one_iff]
  all_goals first
   | (simp_all [b0q]; done)
   | (rw [<- Bool.not_eq_true]; intro hh; simp [b0q, *] at hh <;> omega)
   | trace_state
theorem c61 (p : Pg) (f : FnD) (x : Ins) (hc : f.code.length <= 2000000) (hf : p.funcs.length <= 2000000) (hg : p.globals.length <= 2000000) (hl : p.layouts.length <= 2000000) : PC Try.prog Gl 54 [.agg [.list 4 (fns p.funcs), .list 2 (gbs p.globals), .list 1 (lays p.layouts), .int .i64 p.main, .str f.name, .int .i64 f.params, .int .i64 f.regs, .list 5 (inss f.code)], .agg [.int .i64 x.op, .int .i64 x.a, .int .i64 x.b, .int .i64 x.c, .int .i64 x.d]] (.bool (b0r p f x)) := by
 by_cases ho : 1 <= x.op /\ x.op <= 52
 obtain ⟨⟨i1, i2, i3⟩, ⟨j1, j2, j3⟩, j4⟩ := e0l ho
 all_goals
  refine b0o (res := [.tmp 4]) 9 55 [29, 28] (fun d ix => d :: ix) (fn := Try.f54) (by kernel_rfl) (by rfl) (by rfl) (by rfl) (by simp) (by decide) ?_
  repeat' first
   | ((with_reducible refine a1o ?_); refine a7w (fun y : {i : Nat // i <= 3 /\ ((0 < i -> opI p f x (rI x.op).1 x.a = true) /\ (1 < i -> opI p f x (rI x.op).2.1 x.b = true) /\ (2 < i -> opI p f x (rI x.op).2.2 x.c = true))} => (⟨[.agg [.list 4 (fns p.funcs), .list 2 (gbs p.globals), .list 1 (lays p.layouts), .int .i64 p.main, .str f.name, .int .i64 f.params, .int .i64 f.regs, .list 5 (inss f.code)], .agg [.int .i64 x.op, .int .i64 x.a, .int .i64 x.b, .int .i64 x.c, .int .i64 x.d], .ptr [2] 8 0 0, .ptr [3] 5 0 0, .bool false, .ptr [5] 2 0 0, .bool true, .undef, .undef], [(28, .agg [.int .i64 x.a, .int .i64 x.b, .int .i64 x.c]), (29, .int .i64 (y.1 : Int))], hpL [([2], .cells 79 8 [[.list 4 (fns p.funcs), .list 2 (gbs p.globals), .list 1 (lays p.layouts), .int .i64 p.main, .str f.name, .int .i64 f.params, .int .i64 f.regs, .list 5 (inss f.code)]]), ([3], .cells 47 5 [[.int .i64 x.op, .int .i64 x.a, .int .i64 x.b, .int .i64 x.c, .int .i64 x.d]]), ([5], .cells 103 2 [[.str (wdI x.op), .str (rlI x.op)]])], []⟩ : Fs)) (fun y => 3 - y.1) ⟨0, by simp⟩ (a4p [] (fun _ h => h) (by rfl) ?_ ?_ ?_) ?_; (focus (simp [*, SIMF, a0c, a0f, a0m, a1b, a1c, a0b, a0h, a0n, a1g, a1h, a0e, a0j, a0v, a1r, a1s, a0i, a0o, a0u, a1p, a1q, a0a, a0g, a0l, a1e, a1f, List.take_of_length_le, List.filter_append, *]; done)); (focus (simp [*, SIMF, a0c, a0f, a0m, a1b, a1c, a0b, a0h, a0n, a1g, a1h, a0e, a0j, a0v, a1r, a1s, a0i, a0o, a0u, a1p, a1q, a0a, a0g, a0l, a1e, a1f, List.take_of_length_le, List.filter_append]; done)); (focus (simp [*, SIMF, a0c, a0f, a0m, a1b, a1c, a0b, a0h, a0n, a1g, a1h, a0e, a0j, a0v, a1r, a1s, a0i, a0o, a0u, a1p, a1q, a0a, a0g, a0l, a1e, a1f, List.take_of_length_le, List.filter_append, *]; done)); rintro ⟨i, hi, hk⟩; rcases g0a hi with rfl | rfl | rfl | rfl)
   | ((with_reducible refine a1j ?_); refine a1w (⟨1, by simp_all⟩) (a4p [] (fun _ h => h) (by rfl) ?_ ?_ ?_) (by dsimp only; omega); (focus (simp [*, SIMF, a0c, a0f, a0m, a1b, a1c, a0b, a0h, a0n, a1g, a1h, a0e, a0j, a0v, a1r, a1s, a0i, a0o, a0u, a1p, a1q, a0a, a0g, a0l, a1e, a1f, List.take_of_length_le, List.filter_append, *]; done)); (focus (simp [*, SIMF, a0c, a0f, a0m, a1b, a1c, a0b, a0h, a0n, a1g, a1h, a0e, a0j, a0v, a1r, a1s, a0i, a0o, a0u, a1p, a1q, a0a, a0g, a0l, a1e, a1f, List.take_of_length_le, List.filter_append, *]; done)); (focus (simp [*, SIMF, a0c, a0f, a0m, a1b, a1c, a0b, a0h, a0n, a1g, a1h, a0e, a0j, a0v, a1r, a1s, a0i, a0o, a0u, a1p, a1q, a0a, a0g, a0l, a1e, a1f, List.take_of_length_le, List.filter_append, *]; done)))
   | ((with_reducible refine a1j ?_); refine a1w (⟨2, by simp_all⟩) (a4p [] (fun _ h => h) (by rfl) ?_ ?_ ?_) (by dsimp only; omega); (focus (simp [*, SIMF, a0c, a0f, a0m, a1b, a1c, a0b, a0h, a0n, a1g, a1h, a0e, a0j, a0v, a1r, a1s, a0i, a0o, a0u, a1p, a1q, a0a, a0g, a0l, a1e, a1f, List.take_of_length_le, List.filter_append, *]; done)); (focus (simp [*, SIMF, a0c, a0f, a0m, a1b, a1c, a0b, a0h, a0n, a1g, a1h, a0e, a0j, a0v, a1r, a1s, a0i, a0o, a0u, a1p, a1q, a0a, a0g, a0l, a1e, a1f, List.take_of_length_le, List.filter_append, *]; done)); (focus (simp [*, SIMF, a0c, a0f, a0m, a1b, a1c, a0b, a0h, a0n, a1g, a1h, a0e, a0j, a0v, a1r, a1s, a0i, a0o, a0u, a1p, a1q, a0a, a0g, a0l, a1e, a1f, List.take_of_length_le, List.filter_append, *]; done)))
   | ((with_reducible refine a1j ?_); refine a1w (⟨3, by simp_all⟩) (a4p [] (fun _ h => h) (by rfl) ?_ ?_ ?_) (by dsimp only; omega); (focus (simp [*, SIMF, a0c, a0f, a0m, a1b, a1c, a0b, a0h, a0n, a1g, a1h, a0e, a0j, a0v, a1r, a1s, a0i, a0o, a0u, a1p, a1q, a0a, a0g, a0l, a1e, a1f, List.take_of_length_le, List.filter_append, *]; done)); (focus (simp [*, SIMF, a0c, a0f, a0m, a1b, a1c, a0b, a0h, a0n, a1g, a1h, a0e, a0j, a0v, a1r, a1s, a0i, a0o, a0u, a1p, a1q, a0a, a0g, a0l, a1e, a1f, List.take_of_length_le, List.filter_append, *]; done)); (focus (simp [*, SIMF, a0c, a0f, a0m, a1b, a1c, a0b, a0h, a0n, a1g, a1h, a0e, a0j, a0v, a1r, a1s, a0i, a0o, a0u, a1p, a1q, a0a, a0g, a0l, a1e, a1f, List.take_of_length_le, List.filter_append, *]; done)))
   | with_reducible refine stp ?_
   | (with_reducible refine stpK ?_; intro K hK)
   | (with_reducible refine stpC ?_; intro T E hT hE)
   | (with_reducible refine stp2 ?_ ?_ <;> intro h)
   | with_reducible first | refine a0p (id := 7) 9 a0k (by kernel_rfl) fun K hK => ?_ | refine a0q rfl ?_ | refine a1n (d4x _ ho) (by simp [nls, nl, *, a0b, a0e, a0i, a0a, a0c]) ?_ | refine hpc (d4x _ ho) (by simp [nls, nl, *, a0b, a0e, a0i, a0a, a0c]) ?_ | refine a1n (e2i _ ho) (by simp [nls, nl, *, a0b, a0e, a0i, a0a, a0c]) ?_ | refine hpc (e2i _ ho) (by simp [nls, nl, *, a0b, a0e, a0i, a0a, a0c]) ?_ | refine a1n (c109 p f x _ _ hc hf hg hl) (by simp [nls, nl, *, a0b, a0e, a0i, a0a, a0c]) ?_ | refine hpc (c109 p f x _ _ hc hf hg hl) (by simp [nls, nl, *, a0b, a0e, a0i, a0a, a0c]) ?_ | refine a0t rfl (by decide) a0s ?_ | refine a0t rfl (by decide) (a0r (by simp [upd, noH, ext, a5v, a4o, *])) ?_ | refine a1v (by decide) (by kernel_rfl) ?_ | refine a0x (by decide) ?_
   | (with_reducible refine Kont.go hK ?_; clear hK K)
   | ((with_reducible first | refine KT.go hT ?_ | refine KT.go hE ?_); clear hT hE T E)
   | simp [*, -List.all_flatten, -List.all_eq_true, DEFO, -Bool.decide_and, g3n, g3m, g3l, IntKind.wrap_i64, a0f, a0h, a0j, a0o, a0g, a0c, a0b, a0e, a0i, a0a, a6x, a2r, a3c, b0s, a2x, a2j, Ins.row, FnD.row, Gb.row, a2i, Int.le_sub_one_iff]
  all_goals first
   | (simp_all [b0r]; done)
   | (simp_all [b0r, W, IntKind.wrap_i64]; done)
   | (rw [<- Bool.not_eq_true]; intro hh; simp [b0r, *] at hh <;> omega)
   | trace_state
end Go.He
namespace Go.He
open Go Go.RowKit Go.Proofs Go.Shelf Go.Sort Go.FM
set_option maxHeartbeats 40000000
set_option maxRecDepth 100000
theorem d0w (l : List ByteArray) : (strs l).flatten = l.map FV.str := by
 induction l with
 | nil => rfl
 | cons x l ih => simp only [strs, List.map_cons, List.flatten_cons, b8l] at ih ⊢; rw [ih]; rfl
theorem c5z {w : World} {F : Nat -> Prop} {U : FM.Loc -> Prop} {m : FM.Loc -> Nat × Nat} : ∀ (l : List ByteArray) (vs : List Value), RFs w F U m (l.map FV.str) vs -> vs = l.map Value.string
 | [], _, h => by cases h; rfl
 | x :: l, _, h => by
   cases h with
   | cons _ v _ vs h1 h2 =>
   cases h1
   rw [c5z l vs h2]; rfl
theorem c36 (l : List ByteArray) (hl : l.length <= 2000000) : PC Try.prog Gl 42 [.list 1 (strs l)] (.bool (Gv.uniq (l.map (·.data.toList)))) := by
 refine e0i fun w F m vs hF hG hv hH => ?_
 cases hv with
 | cons _ v _ vs h1 h2 =>
 cases h2
 cases h1 with
 | list sz xs A cap vs hl' hc hm h =>
 rw [d0w] at h
 have hvs := c5z l vs h
 subst hvs
 rw [a2k]
 have fin : ∀ (e : Ending) (w' : World), (e = .returned (.bool (Gv.uniq (l.map (·.data.toList)))) /\ RowKit.Below w.heap.size w w') -> ∃ v, e = .returned v /\ RowKit.Below w.heap.size w w' /\ RF w' F (fun l => noH l ≠ none) m (.bool (Gv.uniq (l.map (·.data.toList)))) v := by
  rintro e w' ⟨rfl, hb⟩
  exact ⟨_, rfl, hb, .bool _⟩
 cases hA : A with
 | none =>
   cases l with
   | cons x l => obtain ⟨a, ha, _⟩ := hm (by simp [strs]); rw [hA] at ha; cases ha
   | nil =>
     refine (c8p cap w).mono ?_
     rintro e w' ⟨rfl, rfl⟩
     exact fin _ _ ⟨rfl, Below.refl _ _⟩
 | some a =>
   by_cases hn : l = []
   . subst hn
     refine (b6m (some a) 0 cap [] w (by omega) ((Any.slices_Clone_string_zero uL1 a cap w).mono ?_)).mono ?_
     . rintro e w' ⟨v', rfl, h1, h2, h3⟩; exact ⟨v', rfl, h1, h2, h3⟩
     . exact fin
   . obtain ⟨a', ha, hF', hcell⟩ := hm (by cases l with | nil => exact absurd rfl hn | cons x l => simp [strs])
     rw [hA] at ha
     cases ha
     have hs : a.spot = none := by
      obtain ⟨v, hv⟩ : ∃ v, (l.map Value.string)[0]? = some v := ⟨_, List.getElem?_eq_getElem (by cases l with | nil => exact absurd rfl hn | cons x l => simp)⟩
      have := hcell 0 v hv
      simp only [Addr.add, if_true] at this
      unfold World.cell? at this
      split at this
      . split at this
        . cases this
        . rename_i h; simpa using h
      . cases this
     obtain ⟨b, off, sp⟩ := a
     simp only at hs
     subst hs
     have hcl := Any.slices_Clone_string uL1 b off l.length cap l w (Nat.le_refl _) (by omega) (fun j hj => by
      have := hcell j (.string l[j]) (by rw [List.getElem?_map, List.getElem?_eq_getElem hj]; rfl)
      rw [add0] at this
      rw [this, List.getD_eq_getElem?_getD, List.getElem?_eq_getElem hj]; rfl)
     refine (b6m (some ⟨b, off, none⟩) l.length cap (l.map (·.data.toList)) w (by omega) (hcl.mono ?_)).mono fin
     rintro e w' ⟨v', rfl, h1, h2, h3⟩
     exact ⟨v', rfl, by rw [Lib.map_encStr]; rw [List.take_length] at h1; exact h1, h2, h3⟩
end Go.He
