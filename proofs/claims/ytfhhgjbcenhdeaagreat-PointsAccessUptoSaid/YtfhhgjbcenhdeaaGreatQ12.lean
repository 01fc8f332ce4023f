/- Parts of the proof. -/
import Derived.Test.YtfhhgjbcenhdeaaGreatQ11
set_option linter.unusedSimpArgs false
set_option linter.unusedVariables false
namespace Go.Ge
open Go Go.FM Go.Gv Go.Proofs
set_option maxRecDepth 100000
set_option maxHeartbeats 40000000
def b8q (s : ByteArray) : List FV := [.str s]
def strs (L : List (ByteArray)) : List (List FV) := L.map b8q
theorem a1v (L : List (ByteArray)) : (strs L).length = L.length := by simp [strs]
theorem a1x (a b : List (ByteArray)) : strs (a ++ b) = strs a ++ strs b := by simp [strs]
theorem a2u (a : ByteArray) : strs [a] = [b8q a] := rfl
theorem a2s : strs [] = [] := rfl
theorem a2i (n : Nat) (l : List (ByteArray)) : (strs l).take n = strs (l.take n) := by simp [strs, List.map_take]
theorem a2g (L : List (ByteArray)) : nlss (strs L) = true := by
 induction L with
 | nil => rfl
 | cons r rs ih => simpa [strs, nlss, nls, nl, b8q] using ih
def fidx (l : List Int) : Int := if l.all a5i then -1 else (l.findIdx (fun k => !a5i k) : Int)
theorem e0h {l : List Int} (h : ∀ j (hj : j < l.length), a5i l[j] = true) : fidx l = -1 := by
 rw [fidx, if_pos]
 rw [List.all_eq_true]
 intro x hx
 obtain ⟨j, hj, rfl⟩ := List.getElem_of_mem hx
 exact h j hj
theorem d5c {l : List Int} {i : Nat} (hi : i < l.length) (h : a5i l[i] = false) (hb : ∀ j (hj : j < l.length), j < i -> a5i l[j] = true) : fidx l = (i : Int) := by
 rw [fidx, if_neg]
 . congr 1
   rw [List.findIdx_eq hi]
   refine ⟨by simp [h], fun j hj => ?_⟩
   have := hb j (by omega) hj
   simp [this]
 . intro ha
   have := List.all_eq_true.mp ha _ (List.getElem_mem hi)
   rw [h] at this; cases this
theorem d5b (l : List Int) : decide (0 <= fidx l) = !(l.all a5i) := by
 unfold fidx
 cases h : l.all a5i <;> simp
def kOk (l : List Int) (i : Nat) : Prop := ∀ j (hj : j < l.length), j < i -> a5i l[j] = true
theorem g2e (l : List Int) : kOk l 0 := fun _ _ h => absurd h (by omega)
theorem g2d {l : List Int} {i : Nat} (h : kOk l i) (hi : i < l.length) (e : a5i l[i] = true) : kOk l (i + 1) := by
 intro j hj hji
 by_cases e' : j = i
 . subst e'; exact e
 . exact h j hj (by omega)
theorem c33 (k : Int) : PC Tryz.prog Gl 46 [.int .i64 k] (.bool (!a5i k)) := by
 refine b0f (res := [.tmp 2]) 3 6 [] (fun d ix => d :: ix) (fn := Tryz.f46) (by kernel_rfl) (by rfl) (by rfl) (by rfl) (by simp) (by decide) ?_
 repeat' first
  | with_reducible refine stp ?_
  | (with_reducible refine stpK ?_; intro K hK)
  | (with_reducible refine stpC ?_; intro T E hT hE)
  | (with_reducible refine stp2 ?_ ?_ <;> intro h)
  | with_reducible first | refine a0p rfl ?_ | refine a1h (c34 _) (by simp [nls, nl, *, a0c, a0f, a0h, a0a, a0b]) ?_ | refine hpc (c34 _) (by simp [nls, nl, *, a0c, a0f, a0h, a0a, a0b]) ?_ | refine a1r rfl (by decide) (by first | exact a0r | exact a0q (by simp [upd, noH, ext, a5z, a4o, *])) ?_ | refine a1s (by decide) (by kernel_rfl) ?_ | refine a0x (by decide) ?_
  | (with_reducible refine Kont.go hK ?_; clear hK K)
  | ((with_reducible first | refine KT.go hT ?_ | refine KT.go hE ?_); clear hT hE T E)
  | simp [*, -List.all_flatten, -List.all_eq_true, DEFO]
theorem c60 (l : List Int) (hl : l.length <= 2000000) : PC Tryz.prog Gl 61 [.list 1 (ints l), .clo 46 [] []] (.int .i64 (fidx l)) := by
 refine b0f (res := [.tmp 4]) 6 19 [8, 7] (fun d ix => d :: ix) (fn := Tryz.f61) (by kernel_rfl) (by rfl) (by rfl) (by rfl) (by simp) (by decide) ?_
 repeat' first
  | ((with_reducible refine a1u ?_); refine a7m (fun y : {i : Nat // i <= l.length /\ kOk l i} => (⟨[.list 1 (ints l), .clo 46 [] [], .undef, .undef, .int .i64 0, .undef], [(7, .int .i64 (l.length : Int)), (8, .int .i64 (y.1 : Int))], hpL [], []⟩ : Fs)) (fun y => l.length - y.1) ⟨0, by simp, g2e l⟩ (a4j [] (fun _ h => h) (by rfl) ?_ ?_ ?_) ?_; (focus (simp [*, SIMF, a0b, a0e, a0l, a1a, a0w, a0c, a0g, a0n, a1e, a1f, a0f, a0j, a0s, a1m, a1n, a0h, a0o, a0t, a1k, a1l, a0a, a0d, a0k, a1d, a1b, List.take_of_length_le, List.filter_append, *]; done)); (focus (simp [*, SIMF, a0b, a0e, a0l, a1a, a0w, a0c, a0g, a0n, a1e, a1f, a0f, a0j, a0s, a1m, a1n, a0h, a0o, a0t, a1k, a1l, a0a, a0d, a0k, a1d, a1b, List.take_of_length_le, List.filter_append]; done)); (focus (simp [*, SIMF, a0b, a0e, a0l, a1a, a0w, a0c, a0g, a0n, a1e, a1f, a0f, a0j, a0s, a1m, a1n, a0h, a0o, a0t, a1k, a1l, a0a, a0d, a0k, a1d, a1b, List.take_of_length_le, List.filter_append, *]; done)); rintro ⟨i, hi, hk⟩; (try dsimp only at hi hk); rcases a1t hi with hlt | ⟨hlt, rfl⟩; have wi := wli hlt (by omega); cases hkb : a5i (l[i]'hlt))
  | ((with_reducible refine a1p ?_); refine a2a (⟨i + 1, by omega, g2d hk hlt hkb⟩) (a4j [] (fun _ h => h) (by rfl) ?_ ?_ ?_) (by dsimp only; omega); (focus (simp [*, SIMF, a0b, a0e, a0l, a1a, a0w, a0c, a0g, a0n, a1e, a1f, a0f, a0j, a0s, a1m, a1n, a0h, a0o, a0t, a1k, a1l, a0a, a0d, a0k, a1d, a1b, List.take_of_length_le, List.filter_append, *]; done)); (focus (simp [*, SIMF, a0b, a0e, a0l, a1a, a0w, a0c, a0g, a0n, a1e, a1f, a0f, a0j, a0s, a1m, a1n, a0h, a0o, a0t, a1k, a1l, a0a, a0d, a0k, a1d, a1b, List.take_of_length_le, List.filter_append, *]; done)); (focus (simp [*, SIMF, a0b, a0e, a0l, a1a, a0w, a0c, a0g, a0n, a1e, a1f, a0f, a0j, a0s, a1m, a1n, a0h, a0o, a0t, a1k, a1l, a0a, a0d, a0k, a1d, a1b, List.take_of_length_le, List.filter_append, *]; done)))
  | with_reducible refine stp ?_
  | (with_reducible refine stpK ?_; intro K hK)
  | (with_reducible refine stpC ?_; intro T E hT hE)
  | (with_reducible refine stp2 ?_ ?_ <;> intro h)
  | with_reducible first | refine a0p rfl ?_ | refine a1h (c33 _) (by simp [nls, nl, *, a0c, a0f, a0h, a0a, a0b]) ?_ | refine hpc (c33 _) (by simp [nls, nl, *, a0c, a0f, a0h, a0a, a0b]) ?_ | refine a1r rfl (by decide) (by first | exact a0r | exact a0q (by simp [upd, noH, ext, a5z, a4o, *])) ?_ | refine a1s (by decide) (by kernel_rfl) ?_ | refine a0x (by decide) ?_
  | (with_reducible refine Kont.go hK ?_; clear hK K)
  | ((with_reducible first | refine KT.go hT ?_ | refine KT.go hE ?_); clear hT hE T E)
  | simp [*, -List.all_flatten, -List.all_eq_true, DEFO, a0e, a0g, a0j, a0o, a0d, a0b, a0c, a0f, a0h, a0a, a5m, a2x, a3m, a9j, a3a, a2p, Ins.row, FnD.row, Gb.row, a2j, Int.le_sub_one_iff]
 all_goals first
  | (rw [d5c hlt hkb hk]; done)
  | (simp [d5c hlt hkb hk]; done)
  | (simp [e0h (fun j hj => hk j hj hj)]; done)
  | trace_state
theorem c32 (l : List Int) (hl : l.length <= 2000000) : PC Tryz.prog Gl 45 [.list 1 (ints l), .clo 46 [] []] (.bool (!(l.all a5i))) := by
 refine b0f (res := [.tmp 4]) 5 9 [] (fun d ix => d :: ix) (fn := Tryz.f45) (by kernel_rfl) (by rfl) (by rfl) (by rfl) (by simp) (by decide) ?_
 repeat' first
  | with_reducible refine stp ?_
  | (with_reducible refine stpK ?_; intro K hK)
  | (with_reducible refine stpC ?_; intro T E hT hE)
  | (with_reducible refine stp2 ?_ ?_ <;> intro h)
  | with_reducible first | refine a0p rfl ?_ | refine a1h (c60 l hl) (by simp [nls, nl, *, a0c, a0f, a0h, a0a, a0b]) ?_ | refine hpc (c60 l hl) (by simp [nls, nl, *, a0c, a0f, a0h, a0a, a0b]) ?_ | refine a1r rfl (by decide) (by first | exact a0r | exact a0q (by simp [upd, noH, ext, a5z, a4o, *])) ?_ | refine a1s (by decide) (by kernel_rfl) ?_ | refine a0x (by decide) ?_
  | (with_reducible refine Kont.go hK ?_; clear hK K)
  | ((with_reducible first | refine KT.go hT ?_ | refine KT.go hE ?_); clear hT hE T E)
  | simp [*, -List.all_flatten, -List.all_eq_true, DEFO, a0e, a0g, a0j, a0o, a0d, a0b, a0c, a0f, a0h, a0a, a5m, a2x, a3m, a9j, a3a, a2p, Ins.row, FnD.row, Gb.row, a2j, Int.le_sub_one_iff, d5b]
 all_goals first
  | (simp [<- d5b]; done)
  | trace_state
@[simp] theorem g0p : arE Tryz.prog 33 = Option.none := by kernel_rfl
@[simp] theorem g0m : arE Tryz.prog 59 = Option.none := by kernel_rfl
@[simp] theorem g0l : arE Tryz.prog 67 = Option.none := by kernel_rfl
@[simp] theorem g0k : arE Tryz.prog 72 = Option.none := by kernel_rfl
@[simp] theorem g0d : arT Tryz.prog 31 = Option.none := by kernel_rfl
@[simp] theorem g0a : arT Tryz.prog 64 = Option.none := by kernel_rfl
@[simp] theorem f9z : arT Tryz.prog 65 = Option.none := by kernel_rfl
@[simp] theorem f9y : byT Tryz.prog 24 = (Option.some 24) := by kernel_rfl
@[simp] theorem f9u : byT Tryz.prog 54 = (Option.some 8) := by kernel_rfl
@[simp] theorem f9t : byT Tryz.prog 65 = (Option.some 24) := by kernel_rfl
@[simp] theorem e7s : fldT Tryz.prog 33 0 = (Option.some 0) := by kernel_rfl
@[simp] theorem e7r : fldT Tryz.prog 33 1 = (Option.some 1) := by kernel_rfl
@[simp] theorem e7q : fldT Tryz.prog 33 2 = (Option.some 2) := by kernel_rfl
@[simp] theorem e7j : fldT Tryz.prog 67 0 = (Option.some 0) := by kernel_rfl
@[simp] theorem e7i : fldT Tryz.prog 67 1 = (Option.some 4) := by kernel_rfl
@[simp] theorem e7h : fldT Tryz.prog 67 2 = (Option.some 5) := by kernel_rfl
@[simp] theorem e7g : fldT Tryz.prog 67 3 = (Option.some 6) := by kernel_rfl
@[simp] theorem e7f : fldT Tryz.prog 67 4 = (Option.some 7) := by kernel_rfl
@[simp] theorem f5m : fnOk Tryz.prog 13 = Bool.true := by kernel_rfl
@[simp] theorem f5l : fnOk Tryz.prog 14 = Bool.true := by kernel_rfl
@[simp] theorem f5k : fnOk Tryz.prog 15 = Bool.true := by kernel_rfl
@[simp] theorem f5j : fnOk Tryz.prog 16 = Bool.true := by kernel_rfl
@[simp] theorem f5i : fnOk Tryz.prog 17 = Bool.true := by kernel_rfl
@[simp] theorem f5h : fnOk Tryz.prog 18 = Bool.true := by kernel_rfl
@[simp] theorem f5g : fnOk Tryz.prog 19 = Bool.true := by kernel_rfl
@[simp] theorem f5b : fnOk Tryz.prog 24 = Bool.true := by kernel_rfl
@[simp] theorem f4z : fnOk Tryz.prog 27 = Bool.true := by kernel_rfl
@[simp] theorem f4w : fnOk Tryz.prog 31 = Bool.true := by kernel_rfl
@[simp] theorem f4u : fnOk Tryz.prog 33 = Bool.true := by kernel_rfl
@[simp] theorem f4t : fnOk Tryz.prog 34 = Bool.true := by kernel_rfl
@[simp] theorem f4s : fnOk Tryz.prog 35 = Bool.true := by kernel_rfl
@[simp] theorem f4r : fnOk Tryz.prog 36 = Bool.true := by kernel_rfl
@[simp] theorem f4q : fnOk Tryz.prog 38 = Bool.true := by kernel_rfl
@[simp] theorem f4o : fnOk Tryz.prog 40 = Bool.true := by kernel_rfl
@[simp] theorem f4e : fnOk Tryz.prog 50 = Bool.true := by kernel_rfl
@[simp] theorem f4d : fnOk Tryz.prog 51 = Bool.true := by kernel_rfl
@[simp] theorem f4a : fnOk Tryz.prog 55 = Bool.true := by kernel_rfl
@[simp] theorem f3z : fnOk Tryz.prog 56 = Bool.true := by kernel_rfl
@[simp] theorem f3y : fnOk Tryz.prog 57 = Bool.true := by kernel_rfl
@[simp] theorem f3x : fnOk Tryz.prog 58 = Bool.true := by kernel_rfl
@[simp] theorem f3o : fnOk Tryz.prog 69 = Bool.true := by kernel_rfl
@[simp] theorem f9q : fnOk Tryz.prog 7 = Bool.true := by kernel_rfl
@[simp] theorem f3n : fnOk Tryz.prog 70 = Bool.true := by kernel_rfl
@[simp] theorem f3m : fnOk Tryz.prog 71 = Bool.true := by kernel_rfl
@[simp] theorem f3l : fnOk Tryz.prog 74 = Bool.true := by kernel_rfl
@[simp] theorem f3k : fnOk Tryz.prog 75 = Bool.true := by kernel_rfl
@[simp] theorem f3j : fnOk Tryz.prog 76 = Bool.true := by kernel_rfl
@[simp] theorem f3i : fnOk Tryz.prog 77 = Bool.true := by kernel_rfl
@[simp] theorem f3h : fnOk Tryz.prog 78 = Bool.true := by kernel_rfl
@[simp] theorem f9p : fnOk Tryz.prog 8 = Bool.true := by kernel_rfl
@[simp] theorem f3e : fnOk Tryz.prog 81 = Bool.true := by kernel_rfl
@[simp] theorem f3b : fnOk Tryz.prog 86 = Bool.true := by kernel_rfl
@[simp] theorem f9o : fnOk Tryz.prog 9 = Bool.true := by kernel_rfl
@[simp] theorem f3a : fnOk Tryz.prog 98 = Bool.true := by kernel_rfl
@[simp] theorem f9e : ldT Tryz.prog 30 = (Option.some Option.none) := by kernel_rfl
@[simp] theorem f9d : ldT Tryz.prog 31 = (Option.some Option.none) := by kernel_rfl
@[simp] theorem f9c : ldT Tryz.prog 33 = (Option.some (Option.some 3)) := by kernel_rfl
@[simp] theorem g3e : ldT Tryz.prog 4 = (Option.some Option.none) := by kernel_rfl
@[simp] theorem f8x : ldT Tryz.prog 49 = (Option.some Option.none) := by kernel_rfl
@[simp] theorem f8w : ldT Tryz.prog 54 = (Option.some Option.none) := by kernel_rfl
@[simp] theorem f8v : ldT Tryz.prog 59 = (Option.some (Option.some 0)) := by kernel_rfl
@[simp] theorem f8u : ldT Tryz.prog 61 = (Option.some Option.none) := by kernel_rfl
@[simp] theorem f8t : ldT Tryz.prog 63 = (Option.some Option.none) := by kernel_rfl
@[simp] theorem f8s : ldT Tryz.prog 64 = (Option.some Option.none) := by kernel_rfl
@[simp] theorem f8r : ldT Tryz.prog 65 = (Option.some Option.none) := by kernel_rfl
@[simp] theorem b6i : mpT Tryz.prog 54 = (Option.some (3, 59)) := by kernel_rfl
@[simp] theorem c8a : mpT Tryz.prog 63 = (Option.some (40, 3)) := by kernel_rfl
@[simp] theorem e3i : a7e Tryz.prog 33 = (Option.some ((0, 1) :: ((1, 1) :: ((2, 1) :: [])))) := by kernel_rfl
@[simp] theorem e3f : a7e Tryz.prog 59 = (Option.some []) := by kernel_rfl
@[simp] theorem e3e : a7e Tryz.prog 67 = (Option.some ((0, 4) :: ((4, 1) :: ((5, 1) :: ((6, 1) :: ((7, 1) :: [])))))) := by kernel_rfl
@[simp] theorem e3d : a7e Tryz.prog 72 = (Option.some ((0, 1) :: ((1, 1) :: ((2, 1) :: ((3, 1) :: ((4, 1) :: [])))))) := by kernel_rfl
@[simp] theorem f8f : slT Tryz.prog 31 = (Option.some (24, 1)) := by kernel_rfl
@[simp] theorem f8b : slT Tryz.prog 54 = Option.none := by kernel_rfl
@[simp] theorem f8a : slT Tryz.prog 64 = (Option.some (65, 1)) := by kernel_rfl
@[simp] theorem f7z : slT Tryz.prog 65 = (Option.some (54, 1)) := by kernel_rfl
@[simp] theorem f2n : strT Tryz.prog 31 = Bool.false := by kernel_rfl
@[simp] theorem f2j : strT Tryz.prog 54 = Bool.false := by kernel_rfl
@[simp] theorem f2i : strT Tryz.prog 64 = Bool.false := by kernel_rfl
@[simp] theorem f2h : strT Tryz.prog 65 = Bool.false := by kernel_rfl
@[simp] theorem f7s : szT Tryz.prog 31 = (Option.some 1) := by kernel_rfl
@[simp] theorem f7r : szT Tryz.prog 33 = (Option.some 3) := by kernel_rfl
@[simp] theorem g2x : szT Tryz.prog 4 = (Option.some 1) := by kernel_rfl
@[simp] theorem f7q : szT Tryz.prog 40 = (Option.some 2) := by kernel_rfl
@[simp] theorem f7p : szT Tryz.prog 42 = (Option.some 1) := by kernel_rfl
@[simp] theorem f7m : szT Tryz.prog 49 = (Option.some 1) := by kernel_rfl
@[simp] theorem f7k : szT Tryz.prog 59 = (Option.some 0) := by kernel_rfl
@[simp] theorem f7j : szT Tryz.prog 61 = (Option.some 1) := by kernel_rfl
@[simp] theorem f7i : szT Tryz.prog 64 = (Option.some 1) := by kernel_rfl
@[simp] theorem f7h : szT Tryz.prog 65 = (Option.some 1) := by kernel_rfl
@[simp] theorem f7g : szT Tryz.prog 67 = (Option.some 8) := by kernel_rfl
@[simp] theorem e9j : a6m Tryz.prog 24 = (Option.some (Go.FM.FV.nils :: [])) := by kernel_rfl
@[simp] theorem e9h : a6m Tryz.prog 33 = (Option.some (Go.FM.FV.nils :: (Go.FM.FV.nils :: (Go.FM.FV.nils :: [])))) := by kernel_rfl
@[simp] theorem f2c : a6m Tryz.prog 4 = (Option.some ((Go.FM.FV.bool Bool.false) :: [])) := by kernel_rfl
@[simp] theorem e9d : a6m Tryz.prog 54 = (Option.some (Go.FM.FV.nilm :: [])) := by kernel_rfl
@[simp] theorem e9c : a6m Tryz.prog 59 = (Option.some []) := by kernel_rfl
@[simp] theorem e9b : a6m Tryz.prog 65 = (Option.some (Go.FM.FV.nils :: [])) := by kernel_rfl
@[simp] theorem e9a : a6m Tryz.prog 67 = (Option.some (Go.FM.FV.nils :: (Go.FM.FV.nils :: (Go.FM.FV.nils :: ((Go.FM.FV.int Go.IntKind.i64 0) :: (Go.FM.FV.nils :: (Go.FM.FV.nilm :: (Go.FM.FV.nils :: (Go.FM.FV.nils :: []))))))))) := by kernel_rfl
@[simp] theorem d5d : c2b Tryz.prog 3 = (Option.some (Go.FM.FV.int Go.IntKind.i64 0)) := by kernel_rfl
@[simp] theorem d0a : c2b Tryz.prog 59 = (Option.some (Go.FM.FV.agg [])) := by kernel_rfl
def a4w (l : List (List Int)) : List FV := [.list 1 (lays l)]
def lls (L : List (List (List Int))) : List (List FV) := L.map a4w
theorem a2w (L : List (List (List Int))) : (lls L).length = L.length := by simp [lls]
theorem a8f {L : List (List (List Int))} {i : Nat} (h : i < (lls L).length) : (lls L)[i] = a4w (L[i]'(by rwa [a2w] at h)) := by simp [lls]
theorem b8z (a b : List (List (List Int))) : lls (a ++ b) = lls a ++ lls b := by simp [lls]
theorem d3f (a : List (List Int)) : lls [a] = [a4w a] := rfl
theorem d3g : lls [] = [] := rfl
theorem a7f (n : Nat) (l : List (List (List Int))) : (lls l).take n = lls (l.take n) := by simp [lls, List.map_take]
theorem a1z (L : List (List (List Int))) : nlss (lls L) = true := by
 induction L with
 | nil => rfl
 | cons r rs ih => simpa [lls, nlss, nls, nl, a4w, a0a] using ih
theorem a7t (L : List (List (List Int))) : (lls L).flatten.all FV.cellV = true := by
 induction L with
 | nil => rfl
 | cons r rs ih => simp [lls, FV.cellV, a4w]
def a8e (s : Int × Int) : List FV := [.int .i64 s.1, .int .i64 s.2]
def sits (L : List (Int × Int)) : List (List FV) := L.map a8e
theorem a1w (L : List (Int × Int)) : (sits L).length = L.length := by simp [sits]
theorem a5l {L : List (Int × Int)} {i : Nat} (h : i < (sits L).length) : (sits L)[i] = a8e (L[i]'(by rwa [a1w] at h)) := by simp [sits]
theorem c4d (a b : List (Int × Int)) : sits (a ++ b) = sits a ++ sits b := by simp [sits]
theorem d7z (a : Int × Int) : sits [a] = [a8e a] := rfl
theorem d8a : sits [] = [] := rfl
theorem a9u (n : Nat) (l : List (Int × Int)) : (sits l).take n = sits (l.take n) := by simp [sits, List.map_take]
theorem a1g (L : List (Int × Int)) : nlss (sits L) = true := by
 induction L with
 | nil => rfl
 | cons r rs ih => simpa [sits, nlss, nls, nl, a8e] using ih
theorem a6a (L : List (Int × Int)) : (sits L).flatten.all FV.cellV = true := by
 induction L with
 | nil => rfl
 | cons r rs ih => simp [sits, FV.cellV, a8e]
theorem szn {n k : Nat} (h : n <= 1000000000) (hk : k <= 100) : (n + n / 4 + 192) * k <= 140737488355328 := by
 have h1 : n + n / 4 + 192 <= 1300000000 := by omega
 have := Nat.mul_le_mul h1 hk
 omega
theorem b1p (l : List (List Int)) {i : Nat} (h : i < l.length) : lays (l.take (i + 1)) = lays (l.take i) ++ [[.list 1 (ints l[i])]] := by
 rw [List.take_add_one, List.getElem?_eq_getElem h, a0k]; rfl
theorem g2u (n : Int) : fMax (.int .i64 0) [.int .i64 n] = some (.int .i64 (mx0 n)) := by simp [fMax, mx0]
theorem wlen (n : Nat) (h : n <= 1000000000) : IntKind.wrap .i64 (1 + (n : Int)) = 1 + (n : Int) := by rw [IntKind.wrap_i64]; omega
theorem b1q (n : Nat) (l : List Int) : (ints l).drop n = ints (l.drop n) := by simp [ints, List.map_drop]
theorem b1f (l : List Int) (i : Nat) : (l.drop i).take (l.length - i) = l.drop i := by rw [List.take_of_length_le]; simp
theorem c5v (l : List Int) {i : Nat} (h : i <= l.length) (a : List FV) : List.take (i + 1) (ints (List.take i l) ++ [a]) = ints (List.take i l) ++ [a] := by
 rw [List.take_of_length_le]; simp [a0e]; omega
theorem c5u (l : List Int) {i : Nat} (h : i <= l.length) (a : List FV) : List.take (l.length + 1) (ints (List.take i l) ++ a :: ints (List.drop i l)) = ints (List.take i l) ++ a :: ints (List.drop i l) := by
 rw [List.take_of_length_le]; simp [a0e]; omega
theorem b3m (l : List Int) (a : List FV) : List.take (l.length + 1) (ints l ++ [a]) = ints l ++ [a] := by
 rw [List.take_of_length_le]; simp [a0e]
theorem b1r (a : Int) (l : List Int) : ints (a :: l) = [.int .i64 a] :: ints l := rfl
theorem c8t {n i : Nat} (h : i <= n) : i + (n - i + 1) = n + 1 := by omega
theorem c3r {n i : Nat} (h : i <= n) : i + 1 + (n - i) = n + 1 := by omega
theorem e1a (a n : Int) : (a < n /\ ¬ a = n) \/ (¬ a < n /\ a = n) \/ (¬ a < n /\ ¬ a = n) := by omega
end Go.Ge
namespace Go.Ge
open Go Go.FM Go.Gv Go.Proofs
set_option maxRecDepth 100000
set_option linter.defProp false
theorem e3a {H : Heap} {k : Nat} {xs : List (List FV)} (h : nlss xs = true) : frzR H (k + 1) xs = some xs := by
 unfold frzR
 rw [if_pos h]
def HPXB := And.intro @Go.FM.a2d (And.intro @Go.FM.a1q (And.intro @Go.FM.b6k (And.intro @Go.FM.a5c (And.intro @Go.FM.c2a (And.intro @Go.FM.a2r (And.intro @Go.FM.a2o (And.intro @Go.FM.b3o (And.intro @Go.FM.b1i (@Go.FM.a3l)))))))))
def NLXB := And.intro @Go.FM.nls.eq_1 (And.intro @Go.FM.nls.eq_2 (And.intro @Go.FM.nl.eq_1 (And.intro @Go.FM.nl.eq_2 (And.intro @Go.FM.nl.eq_3 (And.intro @Go.FM.nl.eq_4 (And.intro @Go.FM.nl.eq_5 (And.intro @Go.FM.nl.eq_6 (And.intro @Go.FM.nl.eq_7 (And.intro @Go.FM.nl.eq_8 (And.intro @Go.FM.nl.eq_9 (And.intro @Go.FM.nl.eq_10 (And.intro @Go.FM.nl.eq_11 (And.intro @Go.FM.nl.eq_12 (And.intro @Go.FM.nl.eq_13 (And.intro @Go.FM.nl.eq_14 (And.intro @Go.FM.nl.eq_15 (And.intro @Go.FM.nl.eq_16 (And.intro @Go.FM.nl.eq_17 (And.intro @Go.Ge.a0b (And.intro @Go.Ge.a0c (And.intro @Go.Ge.a0f (And.intro @Go.Ge.a0h (And.intro @Go.Ge.a0a (And.intro @Go.Ge.a2g (And.intro @Go.Ge.a1z (@Go.Ge.a1g))))))))))))))))))))))))))
def SIMB := And.intro @Go.FM.d8z (And.intro @Go.FM.e5v (And.intro @Go.FM.f0y (And.intro @Go.FM.e5w (And.intro @Go.FM.mV.eq_def (And.intro @Go.FM.mSl.eq_def (And.intro @Go.FM.mPt.eq_def (And.intro @Go.FM.mMp.eq_def (And.intro @Go.FM.b8w (And.intro @Go.FM.c6y (And.intro @Go.FM.d2y (And.intro @Go.FM.a4v (And.intro @Go.FM.nlss.eq_1 (And.intro @Go.FM.nlss.eq_2 (And.intro @Go.FM.nls.eq_1 (And.intro @Go.FM.nls.eq_2 (And.intro @Go.FM.nl.eq_1 (And.intro @Go.FM.nl.eq_2 (And.intro @Go.FM.nl.eq_3 (And.intro @Go.FM.nl.eq_4 (And.intro @Go.FM.nl.eq_5 (And.intro @Go.FM.nl.eq_6 (And.intro @Go.FM.nl.eq_7 (And.intro @Go.FM.nl.eq_8 (And.intro @Go.FM.nl.eq_9 (And.intro @Go.FM.nl.eq_10 (And.intro @Go.FM.nl.eq_11 (And.intro @Go.FM.nl.eq_12 (And.intro @Go.FM.nl.eq_13 (And.intro @Go.FM.nl.eq_14 (And.intro @Go.FM.nl.eq_15 (And.intro @Go.FM.nl.eq_16 (And.intro @Go.FM.nl.eq_17 (And.intro @Go.FM.b0l.eq_1 (And.intro @Go.FM.b0l.eq_2 (And.intro @Go.FM.b0l.eq_3 (And.intro @Go.FM.simV.eq_def (And.intro @Go.FM.simT.eq_1 (And.intro @Go.FM.simT.eq_2 (And.intro @Go.FM.simH.eq_1 (And.intro @Go.FM.simH.eq_2 (And.intro @Go.FM.simO.eq_def (And.intro @Go.FM.renO.eq_def (And.intro @Go.FM.innO.eq_def (And.intro @Go.FM.ren.eq_1 (And.intro @Go.FM.ren.eq_2 (And.intro @Go.FM.ren.eq_3 (And.intro @Go.FM.ren.eq_4 (And.intro @Go.FM.ren.eq_5 (And.intro @Go.FM.ren.eq_6 (And.intro @Go.FM.ren.eq_7 (And.intro @Go.FM.inn.eq_1 (And.intro @Go.FM.inn.eq_2 (And.intro @Go.FM.inn.eq_3 (And.intro @Go.FM.inn.eq_4 (And.intro @Go.FM.inn.eq_5 (And.intro @Go.FM.inn.eq_6 (And.intro @Go.FM.inn.eq_7 (And.intro @Go.FM.inn.eq_8 (And.intro @Go.FM.inn.eq_9 (And.intro @Go.FM.rens.eq_1 (And.intro @Go.FM.rens.eq_2 (And.intro @Go.FM.inns.eq_1 (And.intro @Go.FM.inns.eq_2 (And.intro @Go.FM.renss.eq_1 (And.intro @Go.FM.renss.eq_2 (And.intro @Go.FM.a8v.eq_1 (And.intro @Go.FM.a8v.eq_2 (And.intro @Go.FM.rene.eq_1 (And.intro @Go.FM.rene.eq_2 (And.intro @Go.FM.inne.eq_1 (And.intro @Go.FM.inne.eq_2 (And.intro @Go.FM.bk.eq_1 (And.intro @Go.FM.bk.eq_2 (And.intro @Go.FM.lk.eq_1 (And.intro @Go.FM.lk.eq_2 (And.intro @Go.FM.a2d (And.intro @Go.FM.a1q (And.intro @Go.FM.b6k (And.intro @Go.FM.a5c (And.intro @Go.FM.c2a (And.intro @Go.FM.a2r (And.intro @Go.FM.a2o (And.intro @Go.FM.b3o (And.intro @Go.FM.b1i (And.intro @Go.FM.a3l (And.intro @List.cons_append.{0} (And.intro @List.nil_append.{0} (And.intro @List.append_nil.{0} (And.intro @Go.FM.c6p (And.intro @Go.FM.c7j (And.intro @Go.FM.b1k (And.intro @Go.FM.b1t (And.intro @Go.Ge.a0b (And.intro @Go.Ge.a0e (And.intro @Go.Ge.a0l (And.intro @Go.Ge.a1a (And.intro @Go.Ge.a0w (And.intro @Go.Ge.a2t (And.intro @Go.Ge.a0c (And.intro @Go.Ge.a0g (And.intro @Go.Ge.a0n (And.intro @Go.Ge.a1e (And.intro @Go.Ge.a1f (And.intro @Go.Ge.d3y (And.intro @Go.Ge.a0f (And.intro @Go.Ge.a0j (And.intro @Go.Ge.a0s (And.intro @Go.Ge.a1m (And.intro @Go.Ge.a1n (And.intro @Go.Ge.c7w (And.intro @Go.Ge.a0h (And.intro @Go.Ge.a0o (And.intro @Go.Ge.a0t (And.intro @Go.Ge.a1k (And.intro @Go.Ge.a1l (And.intro @Go.Ge.c7o (And.intro @Go.Ge.a0a (And.intro @Go.Ge.a0d (And.intro @Go.Ge.a0k (And.intro @Go.Ge.a1d (And.intro @Go.Ge.a1b (And.intro @Go.Ge.a4g (And.intro @Go.Ge.a2g (And.intro @Go.Ge.a1v (And.intro @Go.Ge.a1x (And.intro @Go.Ge.a2u (And.intro @Go.Ge.a2s (And.intro @Go.Ge.a2i (And.intro @Go.Ge.a1z (And.intro @Go.Ge.a2w (And.intro @Go.Ge.b8z (And.intro @Go.Ge.d3f (And.intro @Go.Ge.d3g (And.intro @Go.Ge.a7f (And.intro @Go.Ge.a1g (And.intro @Go.Ge.a1w (And.intro @Go.Ge.c4d (And.intro @Go.Ge.d7z (And.intro @Go.Ge.d8a (And.intro @Go.Ge.a9u (And.intro @Go.Ge.a8e.eq_def (And.intro @List.take_take.{0} (And.intro @Nat.min_self (And.intro @List.length_append.{0} (And.intro @List.take_of_length_le.{0} (@List.filter_append.{0}))))))))))))))))))))))))))))))))))))))))))))))))))))))))))))))))))))))))))))))))))))))))))))))))))))))))))))))))))))))))))))))))))))))))))))))))))
def LPXB := And.intro @Go.FM.c0d (And.intro @Go.FM.b6x (And.intro @List.set_cons_zero.{0} (And.intro @List.set_cons_succ.{0} (And.intro @Go.FM.b6y (And.intro @Go.FM.b4j (And.intro @Go.FM.b3o (And.intro @Go.FM.b1i (And.intro @Go.FM.c1n (And.intro @Go.FM.b8b (And.intro @Go.FM.c1m (And.intro @Go.FM.a9q.eq_def (And.intro @List.map_cons.{0,0} (And.intro @List.map_nil.{0,0} (And.intro @Go.FM.lk.eq_1 (And.intro @Go.FM.lk.eq_2 (And.intro @List.nil_append.{0} (And.intro @List.cons_append.{0} (And.intro @List.append_nil.{0} (And.intro @List.contains_cons.{0} (And.intro @List.contains_nil.{0} (@List.cons.injEq.{0})))))))))))))))))))))
def LENB := And.intro @Go.Ge.a0e (And.intro @Go.Ge.a0b (And.intro @Go.Ge.a5m (And.intro @Go.Ge.a0g (And.intro @Go.Ge.a0c (And.intro @Go.Ge.a2x (And.intro @Go.Ge.a0j (And.intro @Go.Ge.a0f (And.intro @Go.Ge.a3m (And.intro @Go.Ge.a0o (And.intro @Go.Ge.a0h (And.intro @Go.Ge.a9j (And.intro @Go.Ge.a0d (And.intro @Go.Ge.a0a (And.intro @Go.Ge.a3a (And.intro @Go.Ge.a2w (And.intro @Go.Ge.a1z (And.intro @Go.Ge.a8f (And.intro @Go.Ge.a1w (And.intro @Go.Ge.a1g (And.intro @Go.Ge.a5l (And.intro @Go.Ge.a2p.eq_def (And.intro @Go.Gv.Ins.row.eq_def (And.intro @Go.Gv.FnD.row.eq_def (And.intro @Go.Gv.Gb.row.eq_def (And.intro @Go.Ge.a2j.eq_def (And.intro @Go.Ge.a4w.eq_def (@Go.Ge.a8e.eq_def)))))))))))))))))))))))))))
def DEFB := And.intro @Go.FM.b2a (And.intro @Go.FM.Fs.init.eq_def (And.intro @Go.FM.Fs.get.eq_def (And.intro @Go.FM.Fs.put.eq_def (And.intro @Go.FM.Fs.clean.eq_def (And.intro @Go.FM.lk.eq_1 (And.intro @Go.FM.lk.eq_2 (And.intro @Go.FM.upd.eq_def (And.intro @Go.FM.ext.eq_def (And.intro @Go.FM.cv1.eq_def (And.intro @Go.FM.cv.eq_def (And.intro @Go.FM.rv.eq_def (And.intro @Go.FM.FV.isU.eq_def (And.intro @Go.FM.FV.cellV.eq_def (And.intro @Go.FM.FV.cellsL.eq_def (And.intro @Go.FM.FV.storable.eq_def (And.intro @Go.FM.b5q.eq_def (And.intro @Go.FM.b7y.eq_def (And.intro @Go.FM.b7x.eq_def (And.intro @Go.FM.fLen.eq_def (And.intro @Go.FM.fBin.eq_def (And.intro @Go.FM.fUn.eq_def (And.intro @Go.FM.c5b.eq_def (And.intro @Go.FM.b8m.eq_def (And.intro @Go.FM.b7w.eq_def (And.intro @Go.FM.a9l.eq_1 (And.intro @Go.FM.a9l.eq_2 (And.intro @Go.FM.b4b.eq_1 (And.intro @Go.FM.b4b.eq_2 (And.intro @Go.FM.pv.eq_def (And.intro @Go.FM.pv1.eq_def (And.intro @Go.FM.pv2.eq_def (And.intro @Go.FM.wv.eq_def (And.intro @Go.FM.b5f.eq_def (And.intro @Go.FM.wBox.eq_def (And.intro @Go.FM.b5d.eq_def (And.intro @Go.FM.a8q.eq_def (And.intro @Go.FM.b5e.eq_def (And.intro @Go.FM.b3l.eq_def (And.intro @Go.FM.b0g.eq_def (And.intro @Go.FM.wApp.eq_def (And.intro @Go.FM.srcA.eq_def (And.intro @Go.FM.a7x.eq_1 (And.intro @Go.FM.a7x.eq_2 (And.intro @Go.FM.upds.eq_def (And.intro @List.foldl_cons.{0,0} (And.intro @List.foldl_nil.{0,0} (And.intro @Go.FM.b4c.eq_def (And.intro @Go.FM.fNil.eq_def (And.intro @Go.FM.fUn2.eq_def (And.intro @Go.FM.c5c.eq_def (And.intro @Go.FM.fCmp.eq_def (And.intro @Go.FM.c3f.eq_def (And.intro @Go.FM.eqK.eq_1 (And.intro @Go.FM.eqK.eq_2 (And.intro @Go.FM.a4z.eq_1 (And.intro @Go.FM.a4z.eq_2 (And.intro @Go.FM.a4z.eq_3 (And.intro @Go.FM.eqV.eq_1 (And.intro @Go.FM.eqV.eq_2 (And.intro @Go.FM.eqV.eq_3 (And.intro @Go.FM.eqV.eq_4 (And.intro @Go.FM.FV.kd.eq_def (And.intro @Go.FM.c5d.eq_def (And.intro @Go.FM.nilV.eq_def (And.intro @Go.FM.putD.eq_def (And.intro @Go.FM.a2q.eq_def (And.intro @Go.FM.a2z.eq_def (And.intro @Go.FM.b2p.eq_1 (And.intro @Go.FM.b2p.eq_2 (And.intro @Go.FM.a5v.eq_def (And.intro @Go.FM.b8n.eq_def (And.intro @Go.FM.resV.eq_def (And.intro @Go.FM.resL.eq_1 (And.intro @Go.FM.resL.eq_2 (And.intro @Go.FM.a3b.eq_def (And.intro @Go.FM.StK.eq_def (And.intro @Go.FM.b5v (And.intro @Go.FM.b3k (And.intro @Go.FM.e1q (And.intro @Go.FM.e1r (And.intro @Go.FM.c8z (And.intro @Go.FM.c9a (And.intro @Go.FM.c3b.eq_def (And.intro @Go.FM.HG_t (And.intro @Go.FM.HG_f (And.intro @Go.FM.e1o (And.intro @Go.FM.e1p (And.intro @Go.FM.nl.eq_1 (And.intro @Go.FM.nl.eq_2 (And.intro @Go.FM.nl.eq_3 (And.intro @Go.FM.nl.eq_4 (And.intro @Go.FM.nl.eq_5 (And.intro @Go.FM.nl.eq_6 (And.intro @Go.FM.nl.eq_7 (And.intro @Go.FM.nl.eq_8 (And.intro @Go.FM.nl.eq_9 (And.intro @Go.FM.nl.eq_10 (And.intro @Go.FM.nl.eq_11 (And.intro @Go.FM.nl.eq_12 (And.intro @Go.FM.nl.eq_13 (And.intro @Go.FM.nl.eq_14 (And.intro @Go.FM.nl.eq_15 (And.intro @Go.FM.nl.eq_16 (And.intro @Go.FM.nl.eq_17 (And.intro @Go.FM.nls.eq_1 (And.intro @Go.FM.nls.eq_2 (And.intro @Go.FM.nlss.eq_1 (And.intro @Go.FM.nlss.eq_2 (And.intro @Go.FM.frz.eq_1 (And.intro @Go.FM.frz.eq_2 (And.intro @Go.FM.frz.eq_3 (And.intro @Go.FM.frz.eq_4 (And.intro @Go.FM.frz.eq_5 (And.intro @Go.FM.frzs.eq_1 (And.intro @Go.FM.frzs.eq_2 (And.intro @Go.FM.frzs.eq_3 (And.intro @Go.FM.frzR.eq_1 (And.intro @Go.FM.frzR.eq_2 (And.intro @Go.FM.frzR.eq_3 (And.intro @e3a (And.intro @Go.FM.asR.eq_1 (And.intro @Go.FM.asR.eq_2 (And.intro @Go.FM.asR.eq_3 (And.intro @Go.FM.asR.eq_4 (And.intro @Go.FM.asRs.eq_1 (And.intro @Go.FM.asRs.eq_2 (And.intro @Go.FM.Fend.eq_def (And.intro @Go.FM.c8v (And.intro @Go.FM.b6h (And.intro @Go.FM.b3z (And.intro @Go.FM.frzN.eq_def (And.intro @Go.FM.nf.eq_1 (And.intro @Go.FM.nf.eq_2 (And.intro @Go.FM.nf.eq_3 (And.intro @Go.FM.nf.eq_4 (And.intro @Go.FM.nf.eq_5 (And.intro @Go.FM.nf.eq_6 (And.intro @Go.FM.nf.eq_7 (And.intro @Go.FM.nf.eq_8 (And.intro @Go.FM.nf.eq_9 (And.intro @Go.FM.nf.eq_10 (And.intro @Go.FM.nf.eq_11 (And.intro @Go.FM.nf.eq_12 (And.intro @Go.FM.nf.eq_13 (And.intro @Go.FM.nf.eq_14 (And.intro @Go.FM.nf.eq_15 (And.intro @Go.FM.nf.eq_16 (And.intro @Go.FM.nf.eq_17 (And.intro @Go.FM.nfs.eq_1 (And.intro @Go.FM.nfs.eq_2 (And.intro @Go.FM.a9p.eq_def (And.intro @Go.FM.b4z.eq_def (And.intro @Go.FM.a2d (And.intro @Go.FM.a1q (And.intro @Go.FM.b6k (And.intro @Go.FM.a5c (And.intro @Go.FM.c2a (And.intro @Go.FM.a2r (And.intro @Go.FM.a2o (And.intro @Go.FM.b3o (And.intro @Go.FM.b1i (And.intro @Go.FM.a3l (And.intro @Go.FM.b4y.eq_def (And.intro @Go.FM.lpS.eq_def (And.intro @Go.FM.c0d (And.intro @Go.FM.b6x (And.intro @List.set_cons_zero.{0} (And.intro @List.set_cons_succ.{0} (And.intro @Go.FM.b6y (And.intro @Go.FM.b4j (And.intro @Go.FM.c1n (And.intro @Go.FM.b8b (And.intro @Go.FM.c1m (And.intro @Go.FM.a9q.eq_def (And.intro @List.cons.injEq.{0} (@List.contains_cons.{0}))))))))))))))))))))))))))))))))))))))))))))))))))))))))))))))))))))))))))))))))))))))))))))))))))))))))))))))))))))))))))))))))))))))))))))))))))))))))))))))))))))))))))))))))
def DEFM := And.intro @Go.FM.b2a (And.intro @Go.FM.Fs.init.eq_def (And.intro @Go.FM.Fs.get.eq_def (And.intro @Go.FM.Fs.put.eq_def (And.intro @Go.FM.Fs.clean.eq_def (And.intro @Go.FM.lk.eq_1 (And.intro @Go.FM.lk.eq_2 (And.intro @Go.FM.upd.eq_def (And.intro @Go.FM.ext.eq_def (And.intro @Go.FM.cv1.eq_def (And.intro @Go.FM.cv.eq_def (And.intro @Go.FM.rv.eq_def (And.intro @Go.FM.FV.isU.eq_def (And.intro @Go.FM.FV.cellV.eq_def (And.intro @Go.FM.FV.cellsL.eq_def (And.intro @Go.FM.FV.storable.eq_def (And.intro @Go.FM.b5q.eq_def (And.intro @Go.FM.b7y.eq_def (And.intro @Go.FM.b7x.eq_def (And.intro @Go.FM.fLen.eq_def (And.intro @Go.FM.fBin.eq_def (And.intro @Go.FM.fUn.eq_def (And.intro @Go.FM.c5b.eq_def (And.intro @Go.FM.b8m.eq_def (And.intro @Go.FM.b7w.eq_def (And.intro @Go.FM.a9l.eq_1 (And.intro @Go.FM.a9l.eq_2 (And.intro @Go.FM.b4b.eq_1 (And.intro @Go.FM.b4b.eq_2 (And.intro @Go.FM.pv.eq_def (And.intro @Go.FM.pv1.eq_def (And.intro @Go.FM.pv2.eq_def (And.intro @Go.FM.wv.eq_def (And.intro @Go.FM.b5f.eq_def (And.intro @Go.FM.wBox.eq_def (And.intro @Go.FM.b5d.eq_def (And.intro @Go.FM.a8q.eq_def (And.intro @Go.FM.b5e.eq_def (And.intro @Go.FM.b3l.eq_def (And.intro @Go.FM.wApp.eq_def (And.intro @Go.FM.srcA.eq_def (And.intro @Go.FM.a7x.eq_1 (And.intro @Go.FM.a7x.eq_2 (And.intro @Go.FM.upds.eq_def (And.intro @List.foldl_cons.{0,0} (And.intro @List.foldl_nil.{0,0} (And.intro @Go.FM.fNil.eq_def (And.intro @Go.FM.fUn2.eq_def (And.intro @Go.FM.c5c.eq_def (And.intro @Go.FM.fCmp.eq_def (And.intro @Go.FM.c3f.eq_def (And.intro @Go.FM.eqK.eq_1 (And.intro @Go.FM.eqK.eq_2 (And.intro @Go.FM.a4z.eq_1 (And.intro @Go.FM.a4z.eq_2 (And.intro @Go.FM.a4z.eq_3 (And.intro @Go.FM.eqV.eq_1 (And.intro @Go.FM.eqV.eq_2 (And.intro @Go.FM.eqV.eq_3 (And.intro @Go.FM.eqV.eq_4 (And.intro @Go.FM.FV.kd.eq_def (And.intro @Go.FM.c5d.eq_def (And.intro @Go.FM.nilV.eq_def (And.intro @Go.FM.putD.eq_def (And.intro @Go.FM.a2q.eq_def (And.intro @Go.FM.a2z.eq_def (And.intro @Go.FM.b2p.eq_1 (And.intro @Go.FM.b2p.eq_2 (And.intro @Go.FM.a5v.eq_def (And.intro @Go.FM.b8n.eq_def (And.intro @Go.FM.resV.eq_def (And.intro @Go.FM.resL.eq_1 (And.intro @Go.FM.resL.eq_2 (And.intro @Go.FM.a3b.eq_def (And.intro @Go.FM.StK.eq_def (And.intro @Go.FM.b5v (And.intro @Go.FM.b3k (And.intro @Go.FM.e1q (And.intro @Go.FM.e1r (And.intro @Go.FM.c8z (And.intro @Go.FM.c9a (And.intro @Go.FM.c3b.eq_def (And.intro @Go.FM.HG_t (And.intro @Go.FM.HG_f (And.intro @Go.FM.e1o (And.intro @Go.FM.e1p (And.intro @Go.FM.nl.eq_1 (And.intro @Go.FM.nl.eq_2 (And.intro @Go.FM.nl.eq_3 (And.intro @Go.FM.nl.eq_4 (And.intro @Go.FM.nl.eq_5 (And.intro @Go.FM.nl.eq_6 (And.intro @Go.FM.nl.eq_7 (And.intro @Go.FM.nl.eq_8 (And.intro @Go.FM.nl.eq_9 (And.intro @Go.FM.nl.eq_10 (And.intro @Go.FM.nl.eq_11 (And.intro @Go.FM.nl.eq_12 (And.intro @Go.FM.nl.eq_13 (And.intro @Go.FM.nl.eq_14 (And.intro @Go.FM.nl.eq_15 (And.intro @Go.FM.nl.eq_16 (And.intro @Go.FM.nl.eq_17 (And.intro @Go.FM.nls.eq_1 (And.intro @Go.FM.nls.eq_2 (And.intro @Go.FM.nlss.eq_1 (And.intro @Go.FM.nlss.eq_2 (And.intro @Go.FM.frz.eq_1 (And.intro @Go.FM.frz.eq_2 (And.intro @Go.FM.frz.eq_3 (And.intro @Go.FM.frz.eq_4 (And.intro @Go.FM.frz.eq_5 (And.intro @Go.FM.frzs.eq_1 (And.intro @Go.FM.frzs.eq_2 (And.intro @Go.FM.frzs.eq_3 (And.intro @Go.FM.frzR.eq_1 (And.intro @Go.FM.frzR.eq_2 (And.intro @Go.FM.frzR.eq_3 (And.intro @e3a (And.intro @Go.FM.asR.eq_1 (And.intro @Go.FM.asR.eq_2 (And.intro @Go.FM.asR.eq_3 (And.intro @Go.FM.asR.eq_4 (And.intro @Go.FM.asRs.eq_1 (And.intro @Go.FM.asRs.eq_2 (And.intro @Go.FM.Fend.eq_def (And.intro @Go.FM.c8v (And.intro @Go.FM.b6h (And.intro @Go.FM.b3z (And.intro @Go.FM.frzN.eq_def (And.intro @Go.FM.nf.eq_1 (And.intro @Go.FM.nf.eq_2 (And.intro @Go.FM.nf.eq_3 (And.intro @Go.FM.nf.eq_4 (And.intro @Go.FM.nf.eq_5 (And.intro @Go.FM.nf.eq_6 (And.intro @Go.FM.nf.eq_7 (And.intro @Go.FM.nf.eq_8 (And.intro @Go.FM.nf.eq_9 (And.intro @Go.FM.nf.eq_10 (And.intro @Go.FM.nf.eq_11 (And.intro @Go.FM.nf.eq_12 (And.intro @Go.FM.nf.eq_13 (And.intro @Go.FM.nf.eq_14 (And.intro @Go.FM.nf.eq_15 (And.intro @Go.FM.nf.eq_16 (And.intro @Go.FM.nf.eq_17 (And.intro @Go.FM.nfs.eq_1 (And.intro @Go.FM.nfs.eq_2 (And.intro @Go.FM.a9p.eq_def (And.intro @Go.FM.b4z.eq_def (And.intro @Go.FM.a2d (And.intro @Go.FM.a1q (And.intro @Go.FM.b6k (And.intro @Go.FM.a5c (And.intro @Go.FM.c2a (And.intro @Go.FM.a2r (And.intro @Go.FM.a2o (And.intro @Go.FM.b3o (And.intro @Go.FM.b1i (And.intro @Go.FM.a3l (And.intro @Go.FM.b4y.eq_def (And.intro @Go.FM.lpS.eq_def (And.intro @Go.FM.c0d (And.intro @Go.FM.b6x (And.intro @List.set_cons_zero.{0} (And.intro @List.set_cons_succ.{0} (And.intro @Go.FM.b6y (And.intro @Go.FM.b4j (And.intro @Go.FM.c1n (And.intro @Go.FM.b8b (And.intro @Go.FM.c1m (And.intro @Go.FM.a9q.eq_def (And.intro @List.cons.injEq.{0} (@List.contains_cons.{0}))))))))))))))))))))))))))))))))))))))))))))))))))))))))))))))))))))))))))))))))))))))))))))))))))))))))))))))))))))))))))))))))))))))))))))))))))))))))))))))))))))))))))))))
end Go.Ge
namespace Go.Ge
open Go Go.FM Go.Gv Go.Proofs
set_option maxRecDepth 100000
set_option maxHeartbeats 40000000
theorem d1h (l : List Int) (n : Int) (hl : l.length <= 1000000000) : PC Tryz.prog Gl 81 [.list 1 (ints l), .int .i64 n] (.bool (hasI l n)) := by
 refine a3d (res := [.tmp 4]) 6 18 [] (fun d ix => 0 :: d :: ix) (fn := Tryz.f81) (by kernel_rfl) (by rfl) (by rfl) (by rfl) (by simp) (by decide) ?_
 repeat' first
  | ((with_reducible refine a1u ?_); refine a2n (σ := {i : Nat // i <= l.length /\ noI l n i}) (fun y => [(5, .int .i64 (y.1 : Int))]) [] (fun y => []) [] (fun y => []) (fun y => noH) (fun y => l.length - y.1) ⟨0, by simp, g1x l n⟩ (gk3 (j := 0) [] (Bs.pc _) ?_ ?_ ?_ ?_ ?_ ?_ ?_) ?_; (iterate 7 (focus (first | rfl | (simp [LPXB, *, SIMB, hdN, injB]; done)))); rintro ⟨i, hi, hk⟩; simp only [lpS, LPXB]; (try dsimp only at hi hk); rcases a1t hi with hlt | ⟨hlt, rfl⟩; have wi := wli hlt (by omega); by_cases he : (l[i]'hlt) = n)
  | ((with_reducible refine a1p ?_); refine a2a (⟨i + 1, by omega, g1w hk hlt he⟩) (gk3 (j := 0) [] (Bs.pc _) ?_ ?_ ?_ ?_ ?_ ?_ ?_) ?_; (iterate 7 (focus (first | rfl | (simp [LPXB, *, SIMB, hdN, injB]; done)))); (focus (dsimp only; omega)))
  | with_reducible refine stp ?_
  | (with_reducible refine stpK ?_; intro K hK)
  | (with_reducible refine stpC ?_; intro T E hT hE)
  | (with_reducible refine stp2 ?_ ?_ <;> intro h)
  | with_reducible first | refine a0p rfl ?_ | refine a1r rfl (Nat.le_of_ble_eq_true rfl) (by first | exact a0r | exact a0q (by simp [HPXB, ext, upd, *])) ?_ | refine a1s (by decide) (by kernel_rfl) ?_ | refine a0x (by decide) ?_
  | (with_reducible refine Kont.go hK ?_; clear hK K)
  | ((with_reducible first | refine KT.go hT ?_ | refine KT.go hE ?_); clear hT hE T E)
  | simp [*, -List.all_flatten, -List.all_eq_true, DEFB, LENB]
 all_goals first
  | (rw [c4s hlt he]; done)
  | (simp [c4s hlt he]; done)
  | (rw [d4h hk]; done)
  | (simp [d4h hk]; done)
  | trace_state
theorem c2i (a b : List Int) (ha : a.length <= 1000000000) : PC Tryz.prog Gl 17 [.list 1 (ints a), .list 1 (ints b)] (.bool (decide (a = b))) := by
 by_cases hab : a.length = b.length
 all_goals
  refine a3d (res := [.tmp 4]) 6 26 [] (fun d ix => 0 :: d :: ix) (fn := Tryz.f17) (by kernel_rfl) (by rfl) (by rfl) (by rfl) (by simp) (by decide) ?_
  repeat' first
   | ((with_reducible refine a1u ?_); refine a2n (σ := {i : Nat // i <= a.length /\ eqTo a b i}) (fun y => [(5, .int .i64 (y.1 : Int))]) [] (fun y => []) [] (fun y => []) (fun y => noH) (fun y => a.length - y.1) ⟨0, by simp, f5z a b⟩ (gk3 (j := 0) [] (Bs.pc _) ?_ ?_ ?_ ?_ ?_ ?_ ?_) ?_; (iterate 7 (focus (first | rfl | (simp [LPXB, *, SIMB, hdN, injB]; done)))); rintro ⟨i, hi, hk⟩; simp only [lpS, LPXB]; (try dsimp only at hi hk); rcases a1t hi with hlt | ⟨hlt, rfl⟩; have hlt2 : i < b.length := (by omega); have wi := wli hlt (by omega); by_cases he : (a[i]'hlt) = (b[i]'hlt2))
   | ((with_reducible refine a1p ?_); refine a2a (⟨i + 1, by omega, f5y hk hlt hlt2 he⟩) (gk3 (j := 0) [] (Bs.pc _) ?_ ?_ ?_ ?_ ?_ ?_ ?_) ?_; (iterate 7 (focus (first | rfl | (simp [LPXB, *, SIMB, hdN, injB]; done)))); (focus (dsimp only; omega)))
   | with_reducible first | refine a0u (id := 6) 9 a0m (by kernel_rfl) fun K hK => ?_ | refine stp ?_
   | (with_reducible refine stpK ?_; intro K hK)
   | (with_reducible refine stpC ?_; intro T E hT hE)
   | (with_reducible refine stp2 ?_ ?_ <;> intro h)
   | with_reducible first | refine a0p rfl ?_ | refine a1r rfl (Nat.le_of_ble_eq_true rfl) (by first | exact a0r | exact a0q (by simp [HPXB, ext, upd, *])) ?_ | refine a1s (by decide) (by kernel_rfl) ?_ | refine a0x (by decide) ?_
   | (with_reducible refine Kont.go hK ?_; clear hK K)
   | ((with_reducible first | refine KT.go hT ?_ | refine KT.go hE ?_); clear hT hE T E)
   | simp [*, -List.all_flatten, -List.all_eq_true, DEFB, LENB, a6b]
  all_goals first
   | (have e := g1z hlt hlt2 he; simp [e]; done)
   | (have e := e0q hab hk; simp [e]; done)
   | (have e : ¬ a = b := fun e => hab (by rw [e]); simp [e]; done)
   | trace_state
theorem b6s (n : Int) : PC Tryz.prog Gl 74 [.int .i64 n] (.bool (alO n)) := by
 rcases c3q n with ⟨h1, h2⟩ | ⟨h1, h2, h3⟩ | ⟨h1, h2, h3, h4⟩ | ⟨h1, h2, h3, h4, h5⟩ | ⟨h1, h2, h3, h4, h5⟩
 all_goals
  refine a3d (res := [.tmp 2]) 3 17 [] (fun d ix => 0 :: d :: ix) (fn := Tryz.f74) (by kernel_rfl) (by rfl) (by rfl) (by rfl) (by simp) (by decide) ?_
  repeat' first
   | with_reducible refine stp ?_
   | (with_reducible refine stpK ?_; intro K hK)
   | (with_reducible refine stpC ?_; intro T E hT hE)
   | (with_reducible refine stp2 ?_ ?_ <;> intro h)
   | with_reducible first | refine a0p rfl ?_ | refine a1r rfl (Nat.le_of_ble_eq_true rfl) (by first | exact a0r | exact a0q (by simp [HPXB, ext, upd, *])) ?_ | refine a1s (by decide) (by kernel_rfl) ?_ | refine a0x (by decide) ?_
   | (with_reducible refine Kont.go hK ?_; clear hK K)
   | ((with_reducible first | refine KT.go hT ?_ | refine KT.go hE ?_); clear hT hE T E)
   | simp [*, -List.all_flatten, -List.all_eq_true, DEFB]
  all_goals first
   | (simp [alO]; done)
   | trace_state
@[simp] theorem b2m : Program.eqGuardType Tryz.prog (Program.depth Tryz.prog) 42 = Bool.false := by kernel_rfl
@[simp] theorem e9l : c1r Tryz.prog 42 = Bool.false := by kernel_rfl
@[simp] theorem f5p : fnOk Tryz.prog 10 = Bool.true := by kernel_rfl
@[simp] theorem f5n : fnOk Tryz.prog 12 = Bool.true := by kernel_rfl
@[simp] theorem f5e : fnOk Tryz.prog 21 = Bool.true := by kernel_rfl
@[simp] theorem f5a : fnOk Tryz.prog 25 = Bool.true := by kernel_rfl
@[simp] theorem f4y : fnOk Tryz.prog 29 = Bool.true := by kernel_rfl
@[simp] theorem f4x : fnOk Tryz.prog 30 = Bool.true := by kernel_rfl
@[simp] theorem f4v : fnOk Tryz.prog 32 = Bool.true := by kernel_rfl
@[simp] theorem f4p : fnOk Tryz.prog 39 = Bool.true := by kernel_rfl
@[simp] theorem f4l : fnOk Tryz.prog 43 = Bool.true := by kernel_rfl
@[simp] theorem f4c : fnOk Tryz.prog 52 = Bool.true := by kernel_rfl
@[simp] theorem f4b : fnOk Tryz.prog 54 = Bool.true := by kernel_rfl
@[simp] theorem f3v : fnOk Tryz.prog 60 = Bool.true := by kernel_rfl
@[simp] theorem f2x : intT Tryz.prog 42 = Option.none := by kernel_rfl
@[simp] theorem f9j : kdT Tryz.prog 42 = Option.none := by kernel_rfl
@[simp] theorem f2t : nilT Tryz.prog 42 = (Option.some Go.FM.NK.sl) := by kernel_rfl
@[simp] theorem f8c : slT Tryz.prog 49 = Option.none := by kernel_rfl
@[simp] theorem f7x : stT Tryz.prog 42 = Option.none := by kernel_rfl
@[simp] theorem f2k : strT Tryz.prog 49 = Bool.false := by kernel_rfl
@[simp] theorem f7l : szT Tryz.prog 54 = (Option.some 1) := by kernel_rfl
theorem c66 (p : Pg) (f : FnD) (x : Ins) (hc : f.code.length <= 2000000) (hf : p.funcs.length <= 2000000) (hg : p.globals.length <= 2000000) (hl : p.layouts.length <= 2000000) : PC Tryz.prog Gl 59 [.agg [.list 4 (fns p.funcs), .list 2 (gbs p.globals), .list 1 (lays p.layouts), .int .i64 p.main], .agg [.str f.name, .int .i64 f.params, .int .i64 f.regs, .list 5 (inss f.code)], .agg [.int .i64 x.op, .int .i64 x.a, .int .i64 x.b, .int .i64 x.c, .int .i64 x.d]] (.bool (b0c p f x)) := by
 by_cases ho : 1 <= x.op /\ x.op <= 52
 obtain ⟨⟨i1, i2, i3⟩, ⟨j1, j2, j3⟩, j4⟩ := e1u ho
 all_goals
  refine b0f (res := [.tmp 6]) 8 89 [] (fun d ix => d :: ix) (fn := Tryz.f59) (by kernel_rfl) (by rfl) (by rfl) (by rfl) (by simp) (by decide) ?_
  repeat' first
   | with_reducible refine stp ?_
   | (with_reducible refine stpK ?_; intro K hK)
   | (with_reducible refine stpC ?_; intro T E hT hE)
   | (with_reducible refine stp2 ?_ ?_ <;> intro h)
   | with_reducible first | refine a0u (id := 2) 40 a0m (by kernel_rfl) fun K hK => ?_ | refine a0p rfl ?_ | refine a1h (c8m _ ho) (by simp [nls, nl, *, a0c, a0f, a0h, a0a, a0b]) ?_ | refine hpc (c8m _ ho) (by simp [nls, nl, *, a0c, a0f, a0h, a0a, a0b]) ?_ | refine a1h (d6d _ ho) (by simp [nls, nl, *, a0c, a0f, a0h, a0a, a0b]) ?_ | refine hpc (d6d _ ho) (by simp [nls, nl, *, a0c, a0f, a0h, a0a, a0b]) ?_ | refine a1h (c114 p f x _ _ hc hf hg hl) (by simp [nls, nl, *, a0c, a0f, a0h, a0a, a0b]) ?_ | refine hpc (c114 p f x _ _ hc hf hg hl) (by simp [nls, nl, *, a0c, a0f, a0h, a0a, a0b]) ?_ | refine a1r rfl (by decide) (by first | exact a0r | exact a0q (by simp [upd, noH, ext, a5z, a4o, *])) ?_ | refine a1s (by decide) (by kernel_rfl) ?_ | refine a0x (by decide) ?_
   | (with_reducible refine Kont.go hK ?_; clear hK K)
   | ((with_reducible first | refine KT.go hT ?_ | refine KT.go hE ?_); clear hT hE T E)
   | simp [*, -List.all_flatten, -List.all_eq_true, DEFO, -Bool.decide_and, eqV, a0e, a0g, a0j, a0o, a0d, a0b, a0c, a0f, a0h, a0a, a5m, a2x, a3m, a9j, a3a, a2p, Ins.row, FnD.row, Gb.row, a2j, Int.le_sub_one_iff]
  all_goals first
   | (simp_all [b0c]; done)
   | (rw [<- Bool.not_eq_true]; intro hh; simp [b0c, *] at hh <;> omega)
   | trace_state
theorem c61 (p : Pg) (f : FnD) (x : Ins) (hc : f.code.length <= 2000000) (hf : p.funcs.length <= 2000000) (hg : p.globals.length <= 2000000) (hl : p.layouts.length <= 2000000) : PC Tryz.prog Gl 62 [.agg [.list 4 (fns p.funcs), .list 2 (gbs p.globals), .list 1 (lays p.layouts), .int .i64 p.main, .str f.name, .int .i64 f.params, .int .i64 f.regs, .list 5 (inss f.code)], .agg [.int .i64 x.op, .int .i64 x.a, .int .i64 x.b, .int .i64 x.c, .int .i64 x.d]] (.bool (b0z p f x)) := by
 by_cases ho : 1 <= x.op /\ x.op <= 52
 obtain ⟨⟨i1, i2, i3⟩, ⟨j1, j2, j3⟩, j4⟩ := e1u ho
 all_goals
  refine b0f (res := [.tmp 4]) 9 55 [29, 28] (fun d ix => d :: ix) (fn := Tryz.f62) (by kernel_rfl) (by rfl) (by rfl) (by rfl) (by simp) (by decide) ?_
  repeat' first
   | ((with_reducible refine a1u ?_); refine a7m (fun y : {i : Nat // i <= 3 /\ ((0 < i -> opI p f x (rI x.op).1 x.a = true) /\ (1 < i -> opI p f x (rI x.op).2.1 x.b = true) /\ (2 < i -> opI p f x (rI x.op).2.2 x.c = true))} => (⟨[.agg [.list 4 (fns p.funcs), .list 2 (gbs p.globals), .list 1 (lays p.layouts), .int .i64 p.main, .str f.name, .int .i64 f.params, .int .i64 f.regs, .list 5 (inss f.code)], .agg [.int .i64 x.op, .int .i64 x.a, .int .i64 x.b, .int .i64 x.c, .int .i64 x.d], .ptr [2] 8 0 0, .ptr [3] 5 0 0, .bool false, .ptr [5] 2 0 0, .bool true, .undef, .undef], [(28, .agg [.int .i64 x.a, .int .i64 x.b, .int .i64 x.c]), (29, .int .i64 (y.1 : Int))], hpL [([2], .cells 84 8 [[.list 4 (fns p.funcs), .list 2 (gbs p.globals), .list 1 (lays p.layouts), .int .i64 p.main, .str f.name, .int .i64 f.params, .int .i64 f.regs, .list 5 (inss f.code)]]), ([3], .cells 72 5 [[.int .i64 x.op, .int .i64 x.a, .int .i64 x.b, .int .i64 x.c, .int .i64 x.d]]), ([5], .cells 114 2 [[.str (wdI x.op), .str (rlI x.op)]])], []⟩ : Fs)) (fun y => 3 - y.1) ⟨0, by simp⟩ (a4j [] (fun _ h => h) (by rfl) ?_ ?_ ?_) ?_; (focus (simp [*, SIMF, a0b, a0e, a0l, a1a, a0w, a0c, a0g, a0n, a1e, a1f, a0f, a0j, a0s, a1m, a1n, a0h, a0o, a0t, a1k, a1l, a0a, a0d, a0k, a1d, a1b, List.take_of_length_le, List.filter_append, *]; done)); (focus (simp [*, SIMF, a0b, a0e, a0l, a1a, a0w, a0c, a0g, a0n, a1e, a1f, a0f, a0j, a0s, a1m, a1n, a0h, a0o, a0t, a1k, a1l, a0a, a0d, a0k, a1d, a1b, List.take_of_length_le, List.filter_append]; done)); (focus (simp [*, SIMF, a0b, a0e, a0l, a1a, a0w, a0c, a0g, a0n, a1e, a1f, a0f, a0j, a0s, a1m, a1n, a0h, a0o, a0t, a1k, a1l, a0a, a0d, a0k, a1d, a1b, List.take_of_length_le, List.filter_append, *]; done)); rintro ⟨i, hi, hk⟩; rcases g0y hi with rfl | rfl | rfl | rfl)
   | ((with_reducible refine a1p ?_); refine a2a (⟨1, by simp_all⟩) (a4j [] (fun _ h => h) (by rfl) ?_ ?_ ?_) (by dsimp only; omega); (focus (simp [*, SIMF, a0b, a0e, a0l, a1a, a0w, a0c, a0g, a0n, a1e, a1f, a0f, a0j, a0s, a1m, a1n, a0h, a0o, a0t, a1k, a1l, a0a, a0d, a0k, a1d, a1b, List.take_of_length_le, List.filter_append, *]; done)); (focus (simp [*, SIMF, a0b, a0e, a0l, a1a, a0w, a0c, a0g, a0n, a1e, a1f, a0f, a0j, a0s, a1m, a1n, a0h, a0o, a0t, a1k, a1l, a0a, a0d, a0k, a1d, a1b, List.take_of_length_le, List.filter_append, *]; done)); (focus (simp [*, SIMF, a0b, a0e, a0l, a1a, a0w, a0c, a0g, a0n, a1e, a1f, a0f, a0j, a0s, a1m, a1n, a0h, a0o, a0t, a1k, a1l, a0a, a0d, a0k, a1d, a1b, List.take_of_length_le, List.filter_append, *]; done)))
   | ((with_reducible refine a1p ?_); refine a2a (⟨2, by simp_all⟩) (a4j [] (fun _ h => h) (by rfl) ?_ ?_ ?_) (by dsimp only; omega); (focus (simp [*, SIMF, a0b, a0e, a0l, a1a, a0w, a0c, a0g, a0n, a1e, a1f, a0f, a0j, a0s, a1m, a1n, a0h, a0o, a0t, a1k, a1l, a0a, a0d, a0k, a1d, a1b, List.take_of_length_le, List.filter_append, *]; done)); (focus (simp [*, SIMF, a0b, a0e, a0l, a1a, a0w, a0c, a0g, a0n, a1e, a1f, a0f, a0j, a0s, a1m, a1n, a0h, a0o, a0t, a1k, a1l, a0a, a0d, a0k, a1d, a1b, List.take_of_length_le, List.filter_append, *]; done)); (focus (simp [*, SIMF, a0b, a0e, a0l, a1a, a0w, a0c, a0g, a0n, a1e, a1f, a0f, a0j, a0s, a1m, a1n, a0h, a0o, a0t, a1k, a1l, a0a, a0d, a0k, a1d, a1b, List.take_of_length_le, List.filter_append, *]; done)))
   | ((with_reducible refine a1p ?_); refine a2a (⟨3, by simp_all⟩) (a4j [] (fun _ h => h) (by rfl) ?_ ?_ ?_) (by dsimp only; omega); (focus (simp [*, SIMF, a0b, a0e, a0l, a1a, a0w, a0c, a0g, a0n, a1e, a1f, a0f, a0j, a0s, a1m, a1n, a0h, a0o, a0t, a1k, a1l, a0a, a0d, a0k, a1d, a1b, List.take_of_length_le, List.filter_append, *]; done)); (focus (simp [*, SIMF, a0b, a0e, a0l, a1a, a0w, a0c, a0g, a0n, a1e, a1f, a0f, a0j, a0s, a1m, a1n, a0h, a0o, a0t, a1k, a1l, a0a, a0d, a0k, a1d, a1b, List.take_of_length_le, List.filter_append, *]; done)); (focus (simp [*, SIMF, a0b, a0e, a0l, a1a, a0w, a0c, a0g, a0n, a1e, a1f, a0f, a0j, a0s, a1m, a1n, a0h, a0o, a0t, a1k, a1l, a0a, a0d, a0k, a1d, a1b, List.take_of_length_le, List.filter_append, *]; done)))
   | with_reducible refine stp ?_
   | (with_reducible refine stpK ?_; intro K hK)
   | (with_reducible refine stpC ?_; intro T E hT hE)
   | (with_reducible refine stp2 ?_ ?_ <;> intro h)
   | with_reducible first | refine a0u (id := 7) 9 a0m (by kernel_rfl) fun K hK => ?_ | refine a0p rfl ?_ | refine a1h (d6c _ ho) (by simp [nls, nl, *, a0c, a0f, a0h, a0a, a0b]) ?_ | refine hpc (d6c _ ho) (by simp [nls, nl, *, a0c, a0f, a0h, a0a, a0b]) ?_ | refine a1h (e3o _ ho) (by simp [nls, nl, *, a0c, a0f, a0h, a0a, a0b]) ?_ | refine hpc (e3o _ ho) (by simp [nls, nl, *, a0c, a0f, a0h, a0a, a0b]) ?_ | refine a1h (c109 p f x _ _ hc hf hg hl) (by simp [nls, nl, *, a0c, a0f, a0h, a0a, a0b]) ?_ | refine hpc (c109 p f x _ _ hc hf hg hl) (by simp [nls, nl, *, a0c, a0f, a0h, a0a, a0b]) ?_ | refine a1r rfl (by decide) (by first | exact a0r | exact a0q (by simp [upd, noH, ext, a5z, a4o, *])) ?_ | refine a1s (by decide) (by kernel_rfl) ?_ | refine a0x (by decide) ?_
   | (with_reducible refine Kont.go hK ?_; clear hK K)
   | ((with_reducible first | refine KT.go hT ?_ | refine KT.go hE ?_); clear hT hE T E)
   | simp [*, -List.all_flatten, -List.all_eq_true, DEFO, -Bool.decide_and, g4e, g4d, g4c, IntKind.wrap_i64, a0e, a0g, a0j, a0o, a0d, a0b, a0c, a0f, a0h, a0a, a5m, a2x, a3m, a9j, a3a, a2p, Ins.row, FnD.row, Gb.row, a2j, Int.le_sub_one_iff]
  all_goals first
   | (simp_all [b0z]; done)
   | (simp_all [b0z, W, IntKind.wrap_i64]; done)
   | (rw [<- Bool.not_eq_true]; intro hh; simp [b0z, *] at hh <;> omega)
   | trace_state
end Go.Ge
namespace Go.Ge
open Go Go.RowKit Go.Proofs Go.Shelf Go.Sort Go.FM
set_option maxHeartbeats 40000000
set_option maxRecDepth 100000
theorem d1l (l : List ByteArray) : (strs l).flatten = l.map FV.str := by
 induction l with
 | nil => rfl
 | cons x l ih => simp only [strs, List.map_cons, List.flatten_cons, b8q] at ih ⊢; rw [ih]; rfl
theorem c6n {w : World} {F : Nat -> Prop} {U : FM.Loc -> Prop} {m : FM.Loc -> Nat × Nat} : ∀ (l : List ByteArray) (vs : List Value), RFs w F U m (l.map FV.str) vs -> vs = l.map Value.string
 | [], _, h => by cases h; rfl
 | x :: l, _, h => by
   cases h with
   | cons _ v _ vs h1 h2 =>
   cases h1
   rw [c6n l vs h2]; rfl
theorem c36 (l : List ByteArray) (hl : l.length <= 2000000) : PC Tryz.prog Gl 49 [.list 1 (strs l)] (.bool (Gv.uniq (l.map (·.data.toList)))) := by
 refine e1s fun w F m vs hF hG hv hH => ?_
 cases hv with
 | cons _ v _ vs h1 h2 =>
 cases h2
 cases h1 with
 | list sz xs A cap vs hl' hc hm h =>
 rw [d1l] at h
 have hvs := c6n l vs h
 subst hvs
 rw [a1v]
 have fin : ∀ (e : Ending) (w' : World), (e = .returned (.bool (Gv.uniq (l.map (·.data.toList)))) /\ RowKit.Below w.heap.size w w') -> ∃ v, e = .returned v /\ RowKit.Below w.heap.size w w' /\ RF w' F (fun l => noH l ≠ none) m (.bool (Gv.uniq (l.map (·.data.toList)))) v := by
  rintro e w' ⟨rfl, hb⟩
  exact ⟨_, rfl, hb, .bool _⟩
 cases hA : A with
 | none =>
   cases l with
   | cons x l => obtain ⟨a, ha, _⟩ := hm (by simp [strs]); rw [hA] at ha; cases ha
   | nil =>
     refine (c9g cap w).mono ?_
     rintro e w' ⟨rfl, rfl⟩
     exact fin _ _ ⟨rfl, Below.refl _ _⟩
 | some a =>
   by_cases hn : l = []
   . subst hn
     refine (b6n (some a) 0 cap [] w (by omega) ((Any.slices_Clone_string_zero uL1 a cap w).mono ?_)).mono ?_
     . rintro e w' ⟨v', rfl, h1, h2, h3⟩; exact ⟨v', rfl, h1, h2, h3⟩
     . exact fin
   . obtain ⟨a', ha, hF', hcell⟩ := hm (by cases l with | nil => exact absurd rfl hn | cons x l => simp [strs])
     rw [hA] at ha
     cases ha
     have hs : a.spot = none := by
      obtain ⟨v, hv⟩ : ∃ v, (l.map Value.string)[0]? = some v := ⟨_, List.getElem?_eq_getElem (by cases l with | nil => exact absurd rfl hn | cons x l => simp)⟩
      have := hcell 0 v hv
      simp only [Addr.add, if_true] at this
      unfold World.cell? at this
      split at this
      . split at this
        . cases this
        . rename_i h; simpa using h
      . cases this
     obtain ⟨b, off, sp⟩ := a
     simp only at hs
     subst hs
     have hcl := Any.slices_Clone_string uL1 b off l.length cap l w (Nat.le_refl _) (by omega) (fun j hj => by
      have := hcell j (.string l[j]) (by rw [List.getElem?_map, List.getElem?_eq_getElem hj]; rfl)
      rw [add0] at this
      rw [this, List.getD_eq_getElem?_getD, List.getElem?_eq_getElem hj]; rfl)
     refine (b6n (some ⟨b, off, none⟩) l.length cap (l.map (·.data.toList)) w (by omega) (hcl.mono ?_)).mono fin
     rintro e w' ⟨v', rfl, h1, h2, h3⟩
     exact ⟨v', rfl, by rw [Lib.map_encStr]; rw [List.take_length] at h1; exact h1, h2, h3⟩
end Go.Ge
