/- Part. -/
import Derived.Test.YtfhhgjbcenhdeaaGreatDoorS6
import Derived.Test.YtfhhgjbcenhdeaaGreatDoorS9
set_option linter.all false
set_option maxRecDepth 100000
set_option maxHeartbeats 0
namespace Go.Je
open Go Go.FM Go.Proofs
theorem d7s (m n : Nat) : ((m : Int) = (n : Int)) = (m = n) := by rw [Int.ofNat_inj]
theorem c31 (a b c : Int) : Pq 72 [.int .i64 a, .int .i64 b, .int .i64 c] (.bool (decide (b <= a /\ a <= c))) := by
 refine zw Tryz.f72 [.tmp 6] 7 15 [] ?_
 repeat' first
  | refine wd ?_
  | (refine stpK ?_; intro K hK)
  | (refine stpC ?_; intro T E hT hE)
  | (refine stp2 ?_ ?_ <;> intro h)
  | (refine yg ?_; clear hK K)
  | (refine yh ?_; clear hT hE T E)
  | simp [*, -List.all_flatten, -List.all_eq_true, a3r, Fs.init, Fs.get, Fs.put, Fs.clean, lk, upd, ext, noH, cv1, cv, rv, FV.isU, FV.cellV, FV.cellsL, FV.storable, b4s, b7s, b7r, fLen, fBin, fUn, c6s, b8n, b7q, a7c, b2u, pv, pv1, pv2, wv, b4b, wBox, a6u, a5u, b4a, b1y, b0z, wApp, srcA, a5c, upds, A2i, A2h, b2w, fNil, fUn2, c6t, fCmp, c4i, eqK, a2l, eqV, FV.kd, c6u, nilV, putD, b1p, a0l, a0x, b0u, a2t, b8q, resV, resL, a0p, StK, b4x, b1x, e8t, e8u, d1w, d1x, b8p, HG_t, HG_f, e8r, e8s, nl, nls, nlss, frz, frzs, frzR, asR, asRs, Fend, d1q, b5o, b2s, frzN, nf, nfs, b7e, b1m, a8h]
 all_goals (simp_all)
end Go.Je
namespace Go.Je
open Go Go.FM Go.Gv Go.Proofs
@[simp] theorem b7p : arE Tp 130 = (some (3, 3)) := by kernel_rfl
@[simp] theorem g3l : arE Tp 210 = (some (53, 195)) /\ arT Tp 210 = (some (53, 2)) /\ e8c Tp 4 = true /\ byT Tp 3 = (some 8) /\ byT Tp 35 = (some 56) /\ byT Tp 42 = (some 40) /\ byT Tp 36 = (some 24) /\ byT Tp 79 = (some 24) /\ byT Tp 9 = (some 16) /\ fldT Tp 195 1 = (some 1) /\ fldT Tp 26 0 = (some 0) /\ fldT Tp 26 1 = (some 1) /\ fldT Tp 26 2 = (some 2) /\ fldT Tp 26 3 = (some 3) /\ fldT Tp 35 0 = (some 0) /\ fldT Tp 35 1 = (some 1) /\ fldT Tp 35 2 = (some 2) /\ fldT Tp 35 3 = (some 3) /\ fldT Tp 42 0 = (some 0) /\ fldT Tp 42 1 = (some 1) /\ fldT Tp 42 2 = (some 2) /\ fldT Tp 42 3 = (some 3) /\ fldT Tp 42 4 = (some 4) /\ fldT Tp 79 0 = (some 0) /\ fldT Tp 79 1 = (some 1) /\ fldT Tp 119 0 = (some 0) /\ fldT Tp 119 1 = (some 4) /\ fnOk Tp 15 = true /\ fnOk Tp 166 = true /\ fnOk Tp 88 = true := by and_intros <;> kernel_rfl
@[simp] theorem f8r : fnOk Tp 139 = true /\ fnOk Tp 181 = true /\ fnOk Tp 39 = true /\ fnOk Tp 17 = true /\ fnOk Tp 72 = true /\ fnOk Tp 73 = true /\ fnOk Tp 74 = true /\ fnOk Tp 75 = true /\ fnOk Tp 76 = true /\ fnOk Tp 77 = true /\ fnOk Tp 45 = true /\ fnOk Tp 46 = true /\ fnOk Tp 123 = true /\ fnOk Tp 124 = true /\ fnOk Tp 86 = true /\ fnOk Tp 164 = true /\ ldT Tp 195 = (some (some 2)) /\ ldT Tp 210 = (some (some 106)) /\ ldT Tp 22 = (some none) /\ ldT Tp 23 = (some none) /\ ldT Tp 24 = (some none) /\ ldT Tp 26 = (some (some 4)) /\ ldT Tp 98 = (some (some 2)) /\ ldT Tp 33 = (some none) /\ ldT Tp 35 = (some (some 4)) /\ ldT Tp 42 = (some (some 5)) /\ ldT Tp 36 = (some none) /\ ldT Tp 79 = (some (some 2)) /\ ldT Tp 119 = (some (some 8)) /\ ldT Tp 9 = (some none) := by and_intros <;> kernel_rfl
@[simp] theorem e7c : a3v Tp 195 = (some ((0, 1) :: ((1, 1) :: []))) /\ a3v Tp 130 = none /\ a3v Tp 210 = none /\ a3v Tp 26 = (some ((0, 1) :: ((1, 1) :: ((2, 1) :: ((3, 1) :: []))))) /\ a3v Tp 119 = (some ((0, 4) :: ((4, 4) :: []))) /\ slT Tp 210 = none /\ slT Tp 22 = (some (35, 4)) /\ slT Tp 23 = (some (79, 2)) /\ slT Tp 24 = (some (36, 1)) /\ slT Tp 33 = (some (42, 5)) /\ slT Tp 36 = (some (3, 1)) /\ slT Tp 117 = (some (9, 1)) := by and_intros <;> kernel_rfl
@[simp] theorem e7b : strT Tp 9 = true := by kernel_rfl
@[simp] theorem g3h : szT Tp 195 = (some 2) /\ szT Tp 210 = (some 106) /\ szT Tp 22 = (some 1) /\ szT Tp 24 = (some 1) /\ szT Tp 26 = (some 4) := by and_intros <;> kernel_rfl
@[simp] theorem c6m : szT Tp 3 = (some 1) := by kernel_rfl
@[simp] theorem g5t : szT Tp 33 = (some 1) /\ szT Tp 35 = (some 4) /\ szT Tp 42 = (some 5) /\ szT Tp 79 = (some 2) /\ szT Tp 119 = (some 8) /\ a2y Tp 195 = some [FV.str (.mk (.mk [])), FV.str (.mk (.mk []))] /\ a2y Tp 130 = (some ((FV.int Go.IntKind.i64 0) :: ((FV.int Go.IntKind.i64 0) :: ((FV.int Go.IntKind.i64 0) :: [])))) /\ a2y Tp 210 = some [FV.str (.mk (.mk [])), FV.str (.mk (.mk [])), FV.str (.mk (.mk [])), FV.str (.mk (.mk [])), FV.str (.mk (.mk [])), FV.str (.mk (.mk [])), FV.str (.mk (.mk [])), FV.str (.mk (.mk [])), FV.str (.mk (.mk [])), FV.str (.mk (.mk [])), FV.str (.mk (.mk [])), FV.str (.mk (.mk [])), FV.str (.mk (.mk [])), FV.str (.mk (.mk [])), FV.str (.mk (.mk [])), FV.str (.mk (.mk [])), FV.str (.mk (.mk [])), FV.str (.mk (.mk [])), FV.str (.mk (.mk [])), FV.str (.mk (.mk [])), FV.str (.mk (.mk [])), FV.str (.mk (.mk [])), FV.str (.mk (.mk [])), FV.str (.mk (.mk [])), FV.str (.mk (.mk [])), FV.str (.mk (.mk [])), FV.str (.mk (.mk [])), FV.str (.mk (.mk [])), FV.str (.mk (.mk [])), FV.str (.mk (.mk [])), FV.str (.mk (.mk [])), FV.str (.mk (.mk [])), FV.str (.mk (.mk [])), FV.str (.mk (.mk [])), FV.str (.mk (.mk [])), FV.str (.mk (.mk [])), FV.str (.mk (.mk [])), FV.str (.mk (.mk [])), FV.str (.mk (.mk [])), FV.str (.mk (.mk [])), FV.str (.mk (.mk [])), FV.str (.mk (.mk [])), FV.str (.mk (.mk [])), FV.str (.mk (.mk [])), FV.str (.mk (.mk [])), FV.str (.mk (.mk [])), FV.str (.mk (.mk [])), FV.str (.mk (.mk [])), FV.str (.mk (.mk [])), FV.str (.mk (.mk [])), FV.str (.mk (.mk [])), FV.str (.mk (.mk [])), FV.str (.mk (.mk [])), FV.str (.mk (.mk [])), FV.str (.mk (.mk [])), FV.str (.mk (.mk [])), FV.str (.mk (.mk [])), FV.str (.mk (.mk [])), FV.str (.mk (.mk [])), FV.str (.mk (.mk [])), FV.str (.mk (.mk [])), FV.str (.mk (.mk [])), FV.str (.mk (.mk [])), FV.str (.mk (.mk [])), FV.str (.mk (.mk [])), FV.str (.mk (.mk [])), FV.str (.mk (.mk [])), FV.str (.mk (.mk [])), FV.str (.mk (.mk [])), FV.str (.mk (.mk [])), FV.str (.mk (.mk [])), FV.str (.mk (.mk [])), FV.str (.mk (.mk [])), FV.str (.mk (.mk [])), FV.str (.mk (.mk [])), FV.str (.mk (.mk [])), FV.str (.mk (.mk [])), FV.str (.mk (.mk [])), FV.str (.mk (.mk [])), FV.str (.mk (.mk [])), FV.str (.mk (.mk [])), FV.str (.mk (.mk [])), FV.str (.mk (.mk [])), FV.str (.mk (.mk [])), FV.str (.mk (.mk [])), FV.str (.mk (.mk [])), FV.str (.mk (.mk [])), FV.str (.mk (.mk [])), FV.str (.mk (.mk [])), FV.str (.mk (.mk [])), FV.str (.mk (.mk [])), FV.str (.mk (.mk [])), FV.str (.mk (.mk [])), FV.str (.mk (.mk [])), FV.str (.mk (.mk [])), FV.str (.mk (.mk [])), FV.str (.mk (.mk [])), FV.str (.mk (.mk [])), FV.str (.mk (.mk [])), FV.str (.mk (.mk [])), FV.str (.mk (.mk [])), FV.str (.mk (.mk [])), FV.str (.mk (.mk [])), FV.str (.mk (.mk [])), FV.str (.mk (.mk [])), FV.str (.mk (.mk []))] /\ a2y Tp 26 = (some (FV.nils :: (FV.nils :: (FV.nils :: ((FV.int Go.IntKind.i64 0) :: []))))) /\ a2y Tp 3 = (some ((FV.int Go.IntKind.i64 0) :: [])) /\ a2y Tp 35 = (some ((FV.str (.mk (.mk []))) :: ((FV.int Go.IntKind.i64 0) :: ((FV.int Go.IntKind.i64 0) :: (FV.nils :: []))))) /\ a2y Tp 42 = (some ((FV.int Go.IntKind.i64 0) :: ((FV.int Go.IntKind.i64 0) :: ((FV.int Go.IntKind.i64 0) :: ((FV.int Go.IntKind.i64 0) :: ((FV.int Go.IntKind.i64 0) :: [])))))) /\ a2y Tp 36 = (some (FV.nils :: [])) /\ a2y Tp 79 = (some ((FV.str (.mk (.mk []))) :: ((FV.int Go.IntKind.i64 0) :: []))) /\ a2y Tp 119 = (some (FV.nils :: (FV.nils :: (FV.nils :: ((FV.int Go.IntKind.i64 0) :: ((FV.str (.mk (.mk []))) :: ((FV.int Go.IntKind.i64 0) :: ((FV.int Go.IntKind.i64 0) :: (FV.nils :: []))))))))) /\ a2y Tp 9 = some [FV.str (.mk (.mk []))] := by and_intros <;> kernel_rfl
def a0j (n : Int) : List FV := [.int .i64 n]
def ints (L : List (Int)) : List (List FV) := L.map a0j
theorem a0o (L : List (Int)) : (ints L).length = L.length := by simp [ints]
theorem b6y {L : List (Int)} {i : Nat} (h : i < (ints L).length) : (ints L)[i] = a0j (L[i]'(by rwa [a0o] at h)) := by simp [ints]
theorem a2u (a b : List (Int)) : ints (a ++ b) = ints a ++ ints b := by simp [ints]
theorem a5k (a : Int) : ints [a] = [a0j a] := rfl
theorem a1z : ints [] = [] := rfl
theorem a1d (n : Nat) (l : List (Int)) : (ints l).take n = ints (l.take n) := by simp [ints, A2y]
theorem a0g (L : List (Int)) : nlss (ints L) = true := by
 induction L with
 | nil => rfl
 | cons r rs ih => simpa [ints, nlss, nls, nl, a0j] using ih
theorem a0w (L : List (Int)) : (ints L).flatten.all FV.cellV = true := by
 induction L with
 | nil => rfl
 | cons r rs ih => simp [ints, FV.cellV, a0j]
def _root_.Go.Gv.Ins.row (e : Ins) : List FV := [.int .i64 e.op, .int .i64 e.a, .int .i64 e.b, .int .i64 e.c, .int .i64 e.d]
def inss (L : List (Ins)) : List (List FV) := L.map Ins.row
theorem a2i (L : List (Ins)) : (inss L).length = L.length := by simp [inss]
theorem a9r {L : List (Ins)} {i : Nat} (h : i < (inss L).length) : (inss L)[i] = Ins.row (L[i]'(by rwa [a2i] at h)) := by simp [inss]
theorem b7a (a b : List (Ins)) : inss (a ++ b) = inss a ++ inss b := by simp [inss]
theorem c9z (a : Ins) : inss [a] = [Ins.row a] := rfl
theorem d0a : inss [] = [] := rfl
theorem b6z (n : Nat) (l : List (Ins)) : (inss l).take n = inss (l.take n) := by simp [inss, A2y]
theorem a1p (L : List (Ins)) : nlss (inss L) = true := by
 induction L with
 | nil => rfl
 | cons r rs ih => simpa [inss, nlss, nls, nl, Ins.row] using ih
theorem c4o (L : List (Ins)) : (inss L).flatten.all FV.cellV = true := by
 induction L with
 | nil => rfl
 | cons r rs ih => simp [inss, FV.cellV, Ins.row]
def _root_.Go.Gv.FnD.row (e : FnD) : List FV := [.str e.name, .int .i64 e.params, .int .i64 e.regs, .list 5 (inss e.code)]
def fns (L : List (FnD)) : List (List FV) := L.map FnD.row
theorem a2a (L : List (FnD)) : (fns L).length = L.length := by simp [fns]
theorem b4h {L : List (FnD)} {i : Nat} (h : i < (fns L).length) : (fns L)[i] = FnD.row (L[i]'(by rwa [a2a] at h)) := by simp [fns]
theorem b3r (a b : List (FnD)) : fns (a ++ b) = fns a ++ fns b := by simp [fns]
theorem d9u (a : FnD) : fns [a] = [FnD.row a] := rfl
theorem d9v : fns [] = [] := rfl
theorem b5p (n : Nat) (l : List (FnD)) : (fns l).take n = fns (l.take n) := by simp [fns, A2y]
theorem a3k (L : List (FnD)) : nlss (fns L) = true := by
 induction L with
 | nil => rfl
 | cons r rs ih => simpa [fns, nlss, nls, nl, FnD.row, a1p] using ih
def _root_.Go.Gv.Gb.row (e : Gb) : List FV := [.str e.name, .int .i64 e.kind]
def gbs (L : List (Gb)) : List (List FV) := L.map Gb.row
theorem a7v (L : List (Gb)) : (gbs L).length = L.length := by simp [gbs]
theorem f0m {L : List (Gb)} {i : Nat} (h : i < (gbs L).length) : (gbs L)[i] = Gb.row (L[i]'(by rwa [a7v] at h)) := by simp [gbs]
theorem b9k (a b : List (Gb)) : gbs (a ++ b) = gbs a ++ gbs b := by simp [gbs]
theorem d9n (a : Gb) : gbs [a] = [Gb.row a] := rfl
theorem d9o : gbs [] = [] := rfl
theorem c1l (n : Nat) (l : List (Gb)) : (gbs l).take n = gbs (l.take n) := by simp [gbs, A2y]
theorem a3j (L : List (Gb)) : nlss (gbs L) = true := by
 induction L with
 | nil => rfl
 | cons r rs ih => simpa [gbs, nlss, nls, nl, Gb.row] using ih
theorem d1c (L : List (Gb)) : (gbs L).flatten.all FV.cellV = true := by
 induction L with
 | nil => rfl
 | cons r rs ih => simp [gbs, FV.cellV, Gb.row]
def a0v (l : List Int) : List FV := [.list 1 (ints l)]
def lays (L : List (List Int)) : List (List FV) := L.map a0v
theorem a0t (L : List (List Int)) : (lays L).length = L.length := by simp [lays]
theorem a9p {L : List (List Int)} {i : Nat} (h : i < (lays L).length) : (lays L)[i] = a0v (L[i]'(by rwa [a0t] at h)) := by simp [lays]
theorem a1q (a b : List (List Int)) : lays (a ++ b) = lays a ++ lays b := by simp [lays]
theorem c9u (a : List Int) : lays [a] = [a0v a] := rfl
theorem a8g : lays [] = [] := rfl
theorem a2x (n : Nat) (l : List (List Int)) : (lays l).take n = lays (l.take n) := by simp [lays, A2y]
theorem a1a (L : List (List Int)) : nlss (lays L) = true := by
 induction L with
 | nil => rfl
 | cons r rs ih => simpa [lays, nlss, nls, nl, a0v, a0g] using ih
def _root_.Go.Gv.Pg.row (p : Pg) : List FV := [.list 4 (fns p.fu), .list 2 (gbs p.gl), .list 1 (lays p.la), .int .i64 p.main]
theorem wl (n : Nat) (h : n <= 1000000000) : IntKind.wrap .i64 ((n : Int) - 1) = (n : Int) - 1 := by rw [IntKind.wrap_i64]; omega
theorem wli {i : Nat} {m : Nat} (h : i < m) (hm : m <= 1000000000) : IntKind.wrap .i64 ((i : Int) + 1) = ((i + 1 : Nat) : Int) := by rw [IntKind.wrap_i64]; omega
set_option linter.defProp false
def NLQ := cj @a0g (cj @a0o (cj @a2u (cj @a5k (cj @a1z (cj @a1p (cj @a2i (cj @b7a (cj @c9z (cj @d0a (cj @a3k (cj @a2a (cj @b3r (cj @d9u (cj @d9v (cj @a3j (cj @a7v (cj @b9k (cj @d9n (cj @d9o (cj @a1a (cj @a0t (cj @a1q (cj @c9u @a8g)))))))))))))))))))))))
def za := cj @a2a (cj @b4h (cj @a2i (cj @a9r (cj @a1p @a3k))))
def z1c := cj @a0o (cj @a2i (cj @a2a (cj @a7v (cj @a0t (cj @a0g (cj @a1p (cj @a3k (cj @a3j (cj @a1a (cj @b6y (cj @a9r (cj @b4h (cj @f0m @a9p)))))))))))))
def zx := cj @a0t @a9p
def z1o := cj @a3k (cj @a3j @a1a)
abbrev PA (p : Pg) : FV := .agg [.list 4 (fns p.fu), .list 2 (gbs p.gl), .list 1 (lays p.la), .int .i64 p.main]
theorem PA_eq (p : Pg) : PA p = .agg [.list 4 (fns p.fu), .list 2 (gbs p.gl), .list 1 (lays p.la), .int .i64 p.main] := rfl
def wdI : Int -> ByteArray
 | 1 => ⟨⟨[99, 111, 110, 115, 116]⟩⟩
 | 2 => ⟨⟨[110, 105, 108]⟩⟩
 | 3 => ⟨⟨[109, 111, 118, 101]⟩⟩
 | 4 => ⟨⟨[97, 100, 100]⟩⟩
 | 5 => ⟨⟨[115, 117, 98]⟩⟩
 | 6 => ⟨⟨[109, 117, 108]⟩⟩
 | 7 => ⟨⟨[100, 105, 118]⟩⟩
 | 8 => ⟨⟨[114, 101, 109]⟩⟩
 | 9 => ⟨⟨[110, 101, 103]⟩⟩
 | 10 => ⟨⟨[110, 111, 116]⟩⟩
 | 11 => ⟨⟨[101, 113]⟩⟩
 | 12 => ⟨⟨[110, 101]⟩⟩
 | 13 => ⟨⟨[108, 116]⟩⟩
 | 14 => ⟨⟨[108, 101]⟩⟩
 | 15 => ⟨⟨[108, 101, 110]⟩⟩
 | 16 => ⟨⟨[106, 117, 109, 112]⟩⟩
 | 17 => ⟨⟨[106, 117, 109, 112, 122]⟩⟩
 | 18 => ⟨⟨[103, 108, 111, 98, 97, 108]⟩⟩
 | 19 => ⟨⟨[102, 105, 101, 108, 100]⟩⟩
 | 20 => ⟨⟨[105, 110, 100, 101, 120]⟩⟩
 | 21 => ⟨⟨[110, 101, 119]⟩⟩
 | 22 => ⟨⟨[115, 108, 105, 99, 101]⟩⟩
 | 23 => ⟨⟨[99, 104, 97, 110]⟩⟩
 | 24 => ⟨⟨[99, 108, 111, 115, 117, 114, 101]⟩⟩
 | 25 => ⟨⟨[99, 97, 112]⟩⟩
 | 26 => ⟨⟨[99, 97, 108, 108]⟩⟩
 | 27 => ⟨⟨[99, 97, 108, 108, 99]⟩⟩
 | 28 => ⟨⟨[100, 101, 102, 101, 114]⟩⟩
 | 29 => ⟨⟨[100, 101, 102, 101, 114, 99]⟩⟩
 | 30 => ⟨⟨[114, 101, 116, 117, 114, 110]⟩⟩
 | 31 => ⟨⟨[103, 111]⟩⟩
 | 32 => ⟨⟨[103, 111, 99]⟩⟩
 | 33 => ⟨⟨[108, 111, 97, 100]⟩⟩
 | 34 => ⟨⟨[115, 116, 111, 114, 101]⟩⟩
 | 35 => ⟨⟨[97, 108, 111, 97, 100]⟩⟩
 | 36 => ⟨⟨[97, 115, 116, 111, 114, 101]⟩⟩
 | 37 => ⟨⟨[97, 97, 100, 100]⟩⟩
 | 38 => ⟨⟨[97, 99, 97, 115]⟩⟩
 | 39 => ⟨⟨[108, 111, 99, 107]⟩⟩
 | 40 => ⟨⟨[117, 110, 108, 111, 99, 107]⟩⟩
 | 41 => ⟨⟨[114, 108, 111, 99, 107]⟩⟩
 | 42 => ⟨⟨[114, 117, 110, 108, 111, 99, 107]⟩⟩
 | 43 => ⟨⟨[103, 114, 111, 117, 112]⟩⟩
 | 44 => ⟨⟨[119, 97, 105, 116]⟩⟩
 | 45 => ⟨⟨[111, 110, 99, 101]⟩⟩
 | 46 => ⟨⟨[111, 110, 99, 101, 101, 110, 100]⟩⟩
 | 47 => ⟨⟨[115, 101, 110, 100]⟩⟩
 | 48 => ⟨⟨[114, 101, 99, 118]⟩⟩
 | 49 => ⟨⟨[99, 108, 111, 115, 101]⟩⟩
 | 50 => ⟨⟨[115, 101, 108, 101, 99, 116]⟩⟩
 | 51 => ⟨⟨[99, 97, 115, 101]⟩⟩
 | 52 => ⟨⟨[112, 114, 105, 110, 116]⟩⟩
 | _ => ⟨⟨[]⟩⟩
def rlI : Int -> ByteArray
 | 1 => ⟨⟨[100, 105, 45]⟩⟩
 | 2 => ⟨⟨[100, 45, 45]⟩⟩
 | 3 => ⟨⟨[100, 115, 45]⟩⟩
 | 4 => ⟨⟨[100, 115, 115]⟩⟩
 | 5 => ⟨⟨[100, 115, 115]⟩⟩
 | 6 => ⟨⟨[100, 115, 115]⟩⟩
 | 7 => ⟨⟨[100, 115, 115]⟩⟩
 | 8 => ⟨⟨[100, 115, 115]⟩⟩
 | 9 => ⟨⟨[100, 115, 45]⟩⟩
 | 10 => ⟨⟨[100, 115, 45]⟩⟩
 | 11 => ⟨⟨[100, 115, 115]⟩⟩
 | 12 => ⟨⟨[100, 115, 115]⟩⟩
 | 13 => ⟨⟨[100, 115, 115]⟩⟩
 | 14 => ⟨⟨[100, 115, 115]⟩⟩
 | 15 => ⟨⟨[100, 115, 45]⟩⟩
 | 16 => ⟨⟨[45, 45, 116]⟩⟩
 | 17 => ⟨⟨[115, 45, 116]⟩⟩
 | 18 => ⟨⟨[100, 103, 45]⟩⟩
 | 19 => ⟨⟨[100, 115, 110]⟩⟩
 | 20 => ⟨⟨[100, 115, 115]⟩⟩
 | 21 => ⟨⟨[100, 108, 45]⟩⟩
 | 22 => ⟨⟨[100, 115, 45]⟩⟩
 | 23 => ⟨⟨[100, 115, 45]⟩⟩
 | 24 => ⟨⟨[100, 99, 107]⟩⟩
 | 25 => ⟨⟨[100, 112, 45]⟩⟩
 | 26 => ⟨⟨[68, 102, 97]⟩⟩
 | 27 => ⟨⟨[115, 45, 45]⟩⟩
 | 28 => ⟨⟨[45, 102, 97]⟩⟩
 | 29 => ⟨⟨[115, 45, 45]⟩⟩
 | 30 => ⟨⟨[83, 45, 45]⟩⟩
 | 31 => ⟨⟨[45, 102, 97]⟩⟩
 | 32 => ⟨⟨[115, 45, 45]⟩⟩
 | 33 => ⟨⟨[100, 115, 45]⟩⟩
 | 34 => ⟨⟨[115, 115, 45]⟩⟩
 | 35 => ⟨⟨[100, 115, 45]⟩⟩
 | 36 => ⟨⟨[115, 115, 45]⟩⟩
 | 37 => ⟨⟨[100, 115, 115]⟩⟩
 | 38 => ⟨⟨[100, 115, 115]⟩⟩
 | 39 => ⟨⟨[115, 45, 45]⟩⟩
 | 40 => ⟨⟨[115, 45, 45]⟩⟩
 | 41 => ⟨⟨[115, 45, 45]⟩⟩
 | 42 => ⟨⟨[115, 45, 45]⟩⟩
 | 43 => ⟨⟨[115, 115, 45]⟩⟩
 | 44 => ⟨⟨[115, 45, 45]⟩⟩
 | 45 => ⟨⟨[115, 45, 116]⟩⟩
 | 46 => ⟨⟨[115, 45, 45]⟩⟩
 | 47 => ⟨⟨[115, 115, 45]⟩⟩
 | 48 => ⟨⟨[68, 115, 68]⟩⟩
 | 49 => ⟨⟨[115, 45, 45]⟩⟩
 | 50 => ⟨⟨[100, 120, 98]⟩⟩
 | 51 => ⟨⟨[115, 98, 118]⟩⟩
 | 52 => ⟨⟨[115, 45, 45]⟩⟩
 | _ => ⟨⟨[]⟩⟩
def rlR : Int -> ByteArray
 | 1 => ⟨⟨[100, 105, 45]⟩⟩
 | 2 => ⟨⟨[100, 45, 45]⟩⟩
 | 3 => ⟨⟨[100, 114, 45]⟩⟩
 | 4 => ⟨⟨[100, 114, 114]⟩⟩
 | 5 => ⟨⟨[100, 114, 114]⟩⟩
 | 6 => ⟨⟨[100, 114, 114]⟩⟩
 | 7 => ⟨⟨[100, 114, 114]⟩⟩
 | 8 => ⟨⟨[100, 114, 114]⟩⟩
 | 9 => ⟨⟨[100, 114, 45]⟩⟩
 | 10 => ⟨⟨[100, 114, 45]⟩⟩
 | 11 => ⟨⟨[100, 114, 114]⟩⟩
 | 12 => ⟨⟨[100, 114, 114]⟩⟩
 | 13 => ⟨⟨[100, 114, 114]⟩⟩
 | 14 => ⟨⟨[100, 114, 114]⟩⟩
 | 15 => ⟨⟨[100, 114, 45]⟩⟩
 | 16 => ⟨⟨[45, 45, 106]⟩⟩
 | 17 => ⟨⟨[114, 45, 106]⟩⟩
 | 18 => ⟨⟨[100, 103, 45]⟩⟩
 | 19 => ⟨⟨[100, 114, 110]⟩⟩
 | 20 => ⟨⟨[100, 114, 114]⟩⟩
 | 21 => ⟨⟨[100, 108, 45]⟩⟩
 | 22 => ⟨⟨[100, 114, 45]⟩⟩
 | 23 => ⟨⟨[100, 114, 45]⟩⟩
 | 24 => ⟨⟨[100, 49, 110]⟩⟩
 | 25 => ⟨⟨[100, 110, 45]⟩⟩
 | 26 => ⟨⟨[68, 102, 97]⟩⟩
 | 27 => ⟨⟨[114, 45, 45]⟩⟩
 | 28 => ⟨⟨[45, 102, 97]⟩⟩
 | 29 => ⟨⟨[114, 45, 45]⟩⟩
 | 30 => ⟨⟨[82, 45, 45]⟩⟩
 | 31 => ⟨⟨[45, 102, 97]⟩⟩
 | 32 => ⟨⟨[114, 45, 45]⟩⟩
 | 33 => ⟨⟨[100, 114, 45]⟩⟩
 | 34 => ⟨⟨[114, 114, 45]⟩⟩
 | 35 => ⟨⟨[100, 114, 45]⟩⟩
 | 36 => ⟨⟨[114, 114, 45]⟩⟩
 | 37 => ⟨⟨[100, 114, 114]⟩⟩
 | 38 => ⟨⟨[100, 114, 114]⟩⟩
 | 39 => ⟨⟨[114, 45, 45]⟩⟩
 | 40 => ⟨⟨[114, 45, 45]⟩⟩
 | 41 => ⟨⟨[114, 45, 45]⟩⟩
 | 42 => ⟨⟨[114, 45, 45]⟩⟩
 | 43 => ⟨⟨[114, 114, 45]⟩⟩
 | 44 => ⟨⟨[114, 45, 45]⟩⟩
 | 45 => ⟨⟨[114, 45, 106]⟩⟩
 | 46 => ⟨⟨[114, 45, 45]⟩⟩
 | 47 => ⟨⟨[114, 114, 45]⟩⟩
 | 48 => ⟨⟨[68, 114, 68]⟩⟩
 | 49 => ⟨⟨[114, 45, 45]⟩⟩
 | 50 => ⟨⟨[100, 115, 98]⟩⟩
 | 51 => ⟨⟨[114, 98, 99]⟩⟩
 | 52 => ⟨⟨[114, 45, 45]⟩⟩
 | _ => ⟨⟨[]⟩⟩
theorem d6f {n : Int} (h : ¬ (1 <= n /\ n <= 52)) : rlR n = ⟨⟨[]⟩⟩ := by
 unfold rlR; split <;> first | (exfalso; omega) | rfl
theorem g7s {n : Int} (h : ¬ (1 <= n /\ n <= 52)) (k : Int) (h1 : 1 <= k) (h2 : k <= 52) : (n = k) = False := by simp only [eq_iff_iff, iff_false]; omega
theorem c130 : Pq 181 [] (.agg [.str ⟨⟨[]⟩⟩, .str ⟨⟨[]⟩⟩, .str ⟨⟨[99, 111, 110, 115, 116]⟩⟩, .str ⟨⟨[100, 105, 45]⟩⟩, .str ⟨⟨[110, 105, 108]⟩⟩, .str ⟨⟨[100, 45, 45]⟩⟩, .str ⟨⟨[109, 111, 118, 101]⟩⟩, .str ⟨⟨[100, 115, 45]⟩⟩, .str ⟨⟨[97, 100, 100]⟩⟩, .str ⟨⟨[100, 115, 115]⟩⟩, .str ⟨⟨[115, 117, 98]⟩⟩, .str ⟨⟨[100, 115, 115]⟩⟩, .str ⟨⟨[109, 117, 108]⟩⟩, .str ⟨⟨[100, 115, 115]⟩⟩, .str ⟨⟨[100, 105, 118]⟩⟩, .str ⟨⟨[100, 115, 115]⟩⟩, .str ⟨⟨[114, 101, 109]⟩⟩, .str ⟨⟨[100, 115, 115]⟩⟩, .str ⟨⟨[110, 101, 103]⟩⟩, .str ⟨⟨[100, 115, 45]⟩⟩, .str ⟨⟨[110, 111, 116]⟩⟩, .str ⟨⟨[100, 115, 45]⟩⟩, .str ⟨⟨[101, 113]⟩⟩, .str ⟨⟨[100, 115, 115]⟩⟩, .str ⟨⟨[110, 101]⟩⟩, .str ⟨⟨[100, 115, 115]⟩⟩, .str ⟨⟨[108, 116]⟩⟩, .str ⟨⟨[100, 115, 115]⟩⟩, .str ⟨⟨[108, 101]⟩⟩, .str ⟨⟨[100, 115, 115]⟩⟩, .str ⟨⟨[108, 101, 110]⟩⟩, .str ⟨⟨[100, 115, 45]⟩⟩, .str ⟨⟨[106, 117, 109, 112]⟩⟩, .str ⟨⟨[45, 45, 116]⟩⟩, .str ⟨⟨[106, 117, 109, 112, 122]⟩⟩, .str ⟨⟨[115, 45, 116]⟩⟩, .str ⟨⟨[103, 108, 111, 98, 97, 108]⟩⟩, .str ⟨⟨[100, 103, 45]⟩⟩, .str ⟨⟨[102, 105, 101, 108, 100]⟩⟩, .str ⟨⟨[100, 115, 110]⟩⟩, .str ⟨⟨[105, 110, 100, 101, 120]⟩⟩, .str ⟨⟨[100, 115, 115]⟩⟩, .str ⟨⟨[110, 101, 119]⟩⟩, .str ⟨⟨[100, 108, 45]⟩⟩, .str ⟨⟨[115, 108, 105, 99, 101]⟩⟩, .str ⟨⟨[100, 115, 45]⟩⟩, .str ⟨⟨[99, 104, 97, 110]⟩⟩, .str ⟨⟨[100, 115, 45]⟩⟩, .str ⟨⟨[99, 108, 111, 115, 117, 114, 101]⟩⟩, .str ⟨⟨[100, 99, 107]⟩⟩, .str ⟨⟨[99, 97, 112]⟩⟩, .str ⟨⟨[100, 112, 45]⟩⟩, .str ⟨⟨[99, 97, 108, 108]⟩⟩, .str ⟨⟨[68, 102, 97]⟩⟩, .str ⟨⟨[99, 97, 108, 108, 99]⟩⟩, .str ⟨⟨[115, 45, 45]⟩⟩, .str ⟨⟨[100, 101, 102, 101, 114]⟩⟩, .str ⟨⟨[45, 102, 97]⟩⟩, .str ⟨⟨[100, 101, 102, 101, 114, 99]⟩⟩, .str ⟨⟨[115, 45, 45]⟩⟩, .str ⟨⟨[114, 101, 116, 117, 114, 110]⟩⟩, .str ⟨⟨[83, 45, 45]⟩⟩, .str ⟨⟨[103, 111]⟩⟩, .str ⟨⟨[45, 102, 97]⟩⟩, .str ⟨⟨[103, 111, 99]⟩⟩, .str ⟨⟨[115, 45, 45]⟩⟩, .str ⟨⟨[108, 111, 97, 100]⟩⟩, .str ⟨⟨[100, 115, 45]⟩⟩, .str ⟨⟨[115, 116, 111, 114, 101]⟩⟩, .str ⟨⟨[115, 115, 45]⟩⟩, .str ⟨⟨[97, 108, 111, 97, 100]⟩⟩, .str ⟨⟨[100, 115, 45]⟩⟩, .str ⟨⟨[97, 115, 116, 111, 114, 101]⟩⟩, .str ⟨⟨[115, 115, 45]⟩⟩, .str ⟨⟨[97, 97, 100, 100]⟩⟩, .str ⟨⟨[100, 115, 115]⟩⟩, .str ⟨⟨[97, 99, 97, 115]⟩⟩, .str ⟨⟨[100, 115, 115]⟩⟩, .str ⟨⟨[108, 111, 99, 107]⟩⟩, .str ⟨⟨[115, 45, 45]⟩⟩, .str ⟨⟨[117, 110, 108, 111, 99, 107]⟩⟩, .str ⟨⟨[115, 45, 45]⟩⟩, .str ⟨⟨[114, 108, 111, 99, 107]⟩⟩, .str ⟨⟨[115, 45, 45]⟩⟩, .str ⟨⟨[114, 117, 110, 108, 111, 99, 107]⟩⟩, .str ⟨⟨[115, 45, 45]⟩⟩, .str ⟨⟨[103, 114, 111, 117, 112]⟩⟩, .str ⟨⟨[115, 115, 45]⟩⟩, .str ⟨⟨[119, 97, 105, 116]⟩⟩, .str ⟨⟨[115, 45, 45]⟩⟩, .str ⟨⟨[111, 110, 99, 101]⟩⟩, .str ⟨⟨[115, 45, 116]⟩⟩, .str ⟨⟨[111, 110, 99, 101, 101, 110, 100]⟩⟩, .str ⟨⟨[115, 45, 45]⟩⟩, .str ⟨⟨[115, 101, 110, 100]⟩⟩, .str ⟨⟨[115, 115, 45]⟩⟩, .str ⟨⟨[114, 101, 99, 118]⟩⟩, .str ⟨⟨[68, 115, 68]⟩⟩, .str ⟨⟨[99, 108, 111, 115, 101]⟩⟩, .str ⟨⟨[115, 45, 45]⟩⟩, .str ⟨⟨[115, 101, 108, 101, 99, 116]⟩⟩, .str ⟨⟨[100, 120, 98]⟩⟩, .str ⟨⟨[99, 97, 115, 101]⟩⟩, .str ⟨⟨[115, 98, 118]⟩⟩, .str ⟨⟨[112, 114, 105, 110, 116]⟩⟩, .str ⟨⟨[115, 45, 45]⟩⟩]) := by
 refine zw Tryz.f181 [.cell 0 210] 1 54 [] ?_
 repeat' first
  | refine wd ?_
  | (refine stpK ?_; intro K hK)
  | (refine stpC ?_; intro T E hT hE)
  | (refine stp2 ?_ ?_ <;> intro h)
  | (refine yg ?_; clear hK K)
  | (refine yh ?_; clear hT hE T E)
  | simp [*, -List.all_flatten, -List.all_eq_true, DEFO]
theorem e1l (n : Int) (h : 1 <= n /\ n <= 52) : Pq 164 [.int .i64 n] (.tup [.agg [.str (wdI n), .str (rlI n)], .bool true]) := by
 rcases Gv.b5i h with rfl | rfl | rfl | rfl | rfl | rfl | rfl | rfl | rfl | rfl | rfl | rfl | rfl | rfl | rfl | rfl | rfl | rfl | rfl | rfl | rfl | rfl | rfl | rfl | rfl | rfl | rfl | rfl | rfl | rfl | rfl | rfl | rfl | rfl | rfl | rfl | rfl | rfl | rfl | rfl | rfl | rfl | rfl | rfl | rfl | rfl | rfl | rfl | rfl | rfl | rfl | rfl
 all_goals
  refine zw Tryz.f164 [.cell 2 195, .tmp 3] 5 16 [] ?_
  repeat' first
   | with_reducible first | refine wd ?_ | refine stpK ?_; intro K hK | refine stpC ?_; intro T E hT hE | refine stp2 ?_ ?_ <;> intro h | refine a1v c130 (by simp [nls, nl]) ?_ | refine hpc c130 (by simp [nls, nl]) ?_ | refine yg ?_; clear hK K | refine yh ?_; clear hT hE T E
   | simp [*, -List.all_flatten, -List.all_eq_true, DEFO, FV.cellV, wdI, rlI]
theorem e1k (n : Int) (h : ¬ (1 <= n /\ n <= 52)) : Pq 164 [.int .i64 n] (.tup [.agg [.str ⟨⟨[]⟩⟩, .str ⟨⟨[]⟩⟩], .bool false]) := by
 have h1 : n <= 0 \/ 53 <= n := by omega
 have ne := g7s h
 refine zw Tryz.f164 [.cell 2 195, .tmp 3] 5 16 [] ?_
 repeat' first
  | with_reducible first | refine wd ?_ | refine stpK ?_; intro K hK | refine stpC ?_; intro T E hT hE | refine stp2 ?_ ?_ <;> intro h | refine a1v c130 yr ?_ | refine hpc c130 yr ?_ | refine yg ?_; clear hK K | refine yh ?_; clear hT hE T E
  | simp [*, -List.all_flatten, -List.all_eq_true, DEFO, FV.cellV]
 all_goals (first | (exfalso; omega) | trace_state)
theorem c113 (n : Int) : Pq 88 [.int .i64 n] (.str (rlR n)) := by
 refine zw Tryz.f88 [.tmp 2] 3 75 [3] ?_
 repeat' first
  | refine wd ?_
  | (refine stpK ?_; intro K hK)
  | (refine stpC ?_; intro T E hT hE)
  | (refine stp2 ?_ ?_ <;> intro h)
  | (refine yg ?_; clear hK K)
  | (refine yh ?_; clear hT hE T E)
  | simp [*, -List.all_flatten, -List.all_eq_true, DEFO]
 all_goals first
  | (subst n; rfl)
  | (rw [d6f ya])
theorem e1m (n : Int) (_ : 1 <= n /\ n <= 52) : Pq 88 [.int .i64 n] (.str (rlR n)) := c113 n
theorem d1f (n : Int) (h : ¬ (1 <= n /\ n <= 52)) : Pq 88 [.int .i64 n] (.str ⟨⟨[]⟩⟩) := by
 rw [<- d6f h]; exact c113 n
theorem c114 (p : Pg) (f : FnD) (x : Ins) (role v : Int) (hc : f.code.length <= 2000000) (hf : p.fu.length <= 2000000) (hg : p.gl.length <= 2000000) (hl : p.la.length <= 2000000) : Pq 139 [PA p, .agg [.str f.name, .int .i64 f.params, .int .i64 f.regs, .list 5 (inss f.code)], .agg [.int .i64 x.op, .int .i64 x.a, .int .i64 x.b, .int .i64 x.c, .int .i64 x.d], .int .u8 role, .int .i64 v] (.bool (opR p f x role v)) := by
 refine zw Tryz.f139 [.tmp 10] 11 177 [11] ?_
 repeat' first
  | with_reducible first | refine wd ?_ | refine stpK ?_; intro K hK | refine stpC ?_; intro T E hT hE | refine stp2 ?_ ?_ <;> intro h | refine a0n (id := 17) 28 a0d yc fun K hK => ?_ | refine yg ?_; clear hK K | refine yh ?_; clear hT hE T E
  | simp [*, -List.all_flatten, -List.all_eq_true, DEFO, -Bool.decide_and, z1c, a0j, Ins.row, FnD.row, Gb.row, a0v, A1w]
 all_goals first
  | (simp_all [opR, opAt, a4d]; done)
  | (rw [<- A2g]; intro hh; simp [opR, *] at hh <;> omega)
end Go.Je
namespace Go.Gv
open Go Go.FM
variable {i : Nat} {n : Ins} {p : Pg}
def LS (g : Pts -> Pts) (C : Pts -> Prop) : Prop := ∀ x z, C z -> sub x z -> sub (g x) z
theorem b6c {y z : Pts} (h : sub y z) (o : Int) : ∀ v ∈ cl y o, v ∈ cl z o := fun v hv => by
 rw [<- b7g] at hv ⊢; exact h.2 _ v hv
theorem LS.id : LS (fun x => x) (fun _ => True) := fun _ _ _ h => h
theorem LS.comp {g h : Pts -> Pts} {C D : Pts -> Prop} (hg : LS g C) (hh : LS h D) : LS (fun x => h (g x)) (fun z => C z /\ D z) := fun x z hc hs => hh _ z hc.2 (hg x z hc.1 hs)
theorem LS.congr {g g' : Pts -> Pts} {C D : Pts -> Prop} (hg : LS g C) (e : ∀ x, g' x = g x) (h : ∀ z, D z -> C z) : LS g' D := fun x z hd hs => by rw [e]; exact hg x z (h z hd) hs
theorem LS.addR {i : Nat} {a : Int} {S : Pts -> List Int} (hS : ∀ x z, sub x z -> ∀ o ∈ S x, o ∈ S z) : LS (fun x => addR x i a (S x)) (fun z => subR (rg z i a) (S z)) := fun x z hC h => by
 refine ⟨h.1, fun t o ho => ?_⟩
 cases t with
 | r g b =>
   have ho : o ∈ rg (Gv.addR x i a (S x)) g (b : Int) := ho
   show o ∈ rg z g (b : Int)
   rw [c5r] at ho
   split at ho
   . rename_i e
     have e2 : rg z g (b : Int) = rg z i a := by unfold rg; rw [e.1.1, e.2.1]
     rw [e2]
     rcases a3x.1 ho with h1 | h1
     . exact a9e h i a o h1
     . exact hC o (hS x z h o h1)
   . exact a9e h g (b : Int) o ho
 | c b => exact h.2 (.c b) o ho
theorem LS.addC {c : Int} {S : Pts -> List Int} (hS : ∀ x z, sub x z -> ∀ o ∈ S x, o ∈ S z) : LS (fun x => addC x c (S x)) (fun z => subR (cl z c) (S z)) := fun x z hC h => by
 refine ⟨h.1, fun t o ho => ?_⟩
 cases t with
 | r g b => exact h.2 (.r g b) o ho
 | c b =>
   have ho : o ∈ (x.cells.set c.toNat (a1s (cl x c) (S x))).getD (b : Int).toNat [] := ho
   show o ∈ cl z (b : Int)
   rw [a3t] at ho
   split at ho
   . rename_i e
     have e2 : cl z (b : Int) = cl z c := by unfold cl; rw [e.1]
     rw [e2]
     rcases a3x.1 ho with h1 | h1
     . exact b6c h c o h1
     . exact hC o (hS x z h o h1)
   . exact b6c h (b : Int) o ho
theorem LS.foldl {α : Type} {g : Pts -> α -> Pts} {C : Pts -> α -> Prop} {l : List α} (h : ∀ a ∈ l, LS (fun y => g y a) (fun z => C z a)) : LS (fun x => l.foldl g x) (fun z => ∀ a ∈ l, C z a) := by
 induction l with
 | nil => exact fun x z _ hs => hs
 | cons a l ih => exact fun x z hc hs => ih (fun b hb => h b (by simp [hb])) (g x a) z (fun b hb => hc b (by simp [hb])) (h a yd x z (hc a yd) hs)
theorem LS.at {α : Type} {g : Pts -> α -> Pts} {C : Pts -> α -> Prop} {l : Pts -> List α} (hl : ∀ x z, sub x z -> ∀ a ∈ l x, a ∈ l z) (h : ∀ a, LS (fun y => g y a) (fun z => C z a)) : LS (fun x => (l x).foldl g x) (fun z => ∀ a ∈ l z, C z a) := fun x z hc hs =>
 LS.foldl (C := C) (l := l x) (fun a _ => h a) x z (fun a ha => hc a (hl x z hs a ha)) hs
theorem b5n {l S : Pts -> List Int} (hl : ∀ x z, sub x z -> ∀ a ∈ l x, a ∈ l z) (hS : ∀ x z, sub x z -> ∀ o ∈ S x, o ∈ S z) : LS (fun x => a3f x (l x) (S x)) (fun z => ∀ c ∈ l z, subR (cl z c) (S z)) := fun x z hc hs => by
 have h1 : LS (fun y => (l x).foldl (fun y o => Gv.addC y o (S x)) y) (fun z => ∀ c ∈ l x, subR (cl z c) (S x)) := LS.foldl fun c _ => LS.addC fun _ _ _ _ h => h
 exact h1 x z (fun c hc' o ho => hc c (hl x z hs c hc') o (hS x z hs o ho)) hs
theorem a5x {a : Int} : ∀ x z, sub x z -> ∀ o ∈ rg x i a, o ∈ rg z i a := fun _ _ h => a9e h i a
theorem c0t {a b : Int} : LS (fun x => addR x i a (a6b x (rg x i b))) (fun z => ∀ o ∈ rg z i b, subR (rg z i a) (cl z o)) :=
 (LS.addR fun x z h o ho => by
  obtain ⟨c, hc, ho⟩ := b5m.1 ho
  exact b5m.2 ⟨c, a9e h i b c hc, b6c h c o ho⟩).congr (fun _ => rfl) fun z hz => c8e.2 hz
theorem d7u (k : Nat) : LS (fun x => a3m x i n k) (fun x => ∀ j : Nat, j < k -> subR (rg x n.b.toNat j) (rg x i (n.c + j))) :=
 (LS.foldl (l := List.range k) (g := fun y (j : Nat) => Gv.addR y n.b.toNat j (rg y i (n.c + j))) (C := fun x j => subR (rg x n.b.toNat j) (rg x i (n.c + j))) fun j _ => LS.addR a5x).congr (fun _ => rfl) fun x h j hj => h j (by simpa using hj)
theorem f4x (code : List Ins) : LS (fun x => a7z x i n code) (fun x => ∀ m ∈ code, m.op = 30 /\ 0 <= m.a -> subR (rg x i n.a) (rg x n.b.toNat m.a)) := by
 refine LS.foldl (g := fun y (m : Ins) => if m.op = 30 /\ 0 <= m.a then Gv.addR y i n.a (rg y n.b.toNat m.a) else y) (C := fun x m => m.op = 30 /\ 0 <= m.a -> subR (rg x i n.a) (rg x n.b.toNat m.a)) fun m _ => ?_
 by_cases h : m.op = 30 /\ 0 <= m.a
 . simp only [h, and_self, if_true, true_imp_iff]
   exact LS.addR a5x
 . simp only [h, if_false, false_imp_iff]
   exact LS.id
theorem f4z {o : Int} (k : Nat) : LS (fun x => b4t x i n o k) (fun x => ∀ j : Nat, j < k -> subR (cl x o) (rg x i (n.a + (j + 1)))) :=
 (LS.foldl (l := List.range k) (g := fun y (j : Nat) => a3f y [o] (rg y i (n.a + (j + 1)))) (C := fun x j => ∀ c ∈ [o], subR (cl x c) (rg x i (n.a + (j + 1)))) fun j _ => b5n (l := fun _ => [o]) (S := fun x => rg x i (n.a + (j + 1))) (fun _ _ _ _ h => h) a5x).congr (fun _ => rfl) fun x h j hj c hc => by
  rw [A0d] at hc; subst hc; exact h j (by simpa using hj)
theorem f5a (hp : VOk p) (i : Nat) (a : Int) : LS (fun x => a5d p x (rg x i a)) (fun x => ∀ o ∈ rg x i a, ∀ k ∈ a2q p x o, subR (rg x k.toNat 0) [o]) :=
 LS.at (C := fun x (o : Int) => ∀ k ∈ a2q p x o, subR (rg x k.toNat 0) [o]) a5x fun o =>
  LS.at (C := fun y (k : Int) => subR (rg y k.toNat 0) [o]) (fun _ _ h => b2r hp h) fun k => LS.addR fun _ _ _ _ h => h
theorem f4w (hp : VOk p) (pc : Nat) (n : Ins) : LS (a1e p i pc n) (a1x p i pc n) := by
 unfold a1e a1x
 by_cases e : n.op = 18
 . simp only [e, if_true]; exact LS.addR fun _ _ _ _ h => h
 simp only [e, if_false]
 by_cases e : alO n.op = true
 . simp only [e, if_true]
   have h1 : LS (fun x => Gv.addR x i n.a [(objR (a0a p) ((i : Int), (pc : Int)) : Int)]) (fun z => subR (rg z i n.a) [(objR (a0a p) ((i : Int), (pc : Int)) : Int)]) := LS.addR fun _ _ _ _ h => h
   by_cases e2 : n.op = 24
   . simp only [e2, if_true, true_imp_iff]
     exact ((f4z (i := i) (n := n) n.c.toNat).comp h1).congr (fun _ => rfl) fun z h => And.comm.1 h
   . simp only [e2, if_false, false_imp_iff, and_true]
     exact h1
 simp only [e]
 by_cases e : n.op = 3 \/ n.op = 19 \/ n.op = 20
 . simp only [e, if_true]; exact LS.addR a5x
 simp only [e, if_false]
 by_cases e : n.op = 25
 . simp only [e, if_true]; exact c0t
 simp only [e, if_false]
 by_cases e : n.op = 33 \/ n.op = 35
 . simp only [e, if_true]; exact c0t
 simp only [e, if_false]
 by_cases e : n.op = 34 \/ n.op = 36 \/ n.op = 47
 . simp only [e, if_true]; exact b5n a5x a5x
 simp only [e, if_false]
 by_cases e : n.op = 38
 . simp only [e, if_true]; exact b5n a5x a5x
 simp only [e, if_false]
 by_cases e : n.op = 48
 . simp only [e, if_true]
   by_cases h0 : 0 <= n.a
   . simp only [h0, if_true, true_imp_iff]; exact c0t
   . simp only [h0, if_false, false_imp_iff]; exact LS.id
 simp only [e, if_false]
 by_cases e : n.op = 51
 . simp only [e, if_true]
   by_cases h1 : n.b = 1
   . simp only [h1, if_true]; exact b5n a5x a5x
   . simp only [h1, if_false]
     by_cases h0 : 0 <= n.c
     . simp only [h0, if_true, true_imp_iff]; exact c0t
     . simp only [h0, if_false, false_imp_iff]; exact LS.id
 simp only [e, if_false]
 by_cases e : n.op = 26 \/ n.op = 28 \/ n.op = 31
 . simp only [e, if_true]
   by_cases e2 : n.op = 26 /\ 0 <= n.a
   . have := (d7u (i := i) (n := n) ((fnAt p n.b).params.toNat)).comp (f4x (i := i) (n := n) (fnAt p n.b).code)
     simp only [e2, and_self, if_true, true_imp_iff]
     exact this
   . simp only [e2, if_false, false_imp_iff, and_true]
     exact d7u _
 simp only [e, if_false]
 by_cases e : n.op = 27 \/ n.op = 29 \/ n.op = 32
 . simp only [e, if_true]; exact f5a hp i n.a
 simp only [e, if_false]
 exact LS.id
theorem f4y (hp : VOk p) {code : List Ins} (k : Nat) (hk : k <= code.length) : LS (b1r p i code k) (fun x => ∀ j (hj : j < code.length), j < k -> a1x p i j code[j] x) := by
 induction k with
 | zero => exact LS.id.congr (fun _ => rfl) fun z _ => trivial
 | succ k ih =>
   have hk' : k < code.length := by omega
   have := (ih ya).comp (f4w hp (i := i) k code[k])
   exact this.congr (fun x => by simp only [b1r, A5n hk']) fun x h => ⟨fun j hj hjk => h j hj ya, h k hk' ya⟩
theorem e5h (hp : VOk p) (k : Nat) (hk : k <= p.fu.length) : LS (fun x => a9l p x k) (fun x => ∀ i (hi : i < p.fu.length), i < k -> ∀ j (hj : j < p.fu[i].code.length), a1x p i j p.fu[i].code[j] x) := by
 induction k with
 | zero => exact LS.id.congr (fun _ => rfl) fun z _ => trivial
 | succ k ih =>
   have hk' : k < p.fu.length := by omega
   have := (ih ya).comp (f4y hp (i := k) (code := p.fu[k].code) _ (A5s _))
   exact this.congr (fun x => by simp only [a9l, A5n hk']) fun x h => ⟨fun i hi hik j hj => h i hi ya j hj, fun j hj _ => h k hk' ya j hj⟩
theorem d2t (hp : VOk p) {x z : Pts} (hz : a4i p z) (h : sub x z) : sub (a8w p x) z :=
 e5h hp p.fu.length (A5s _) x z (fun i hi _ j hj => hz i hi j hj) h
end Go.Gv
