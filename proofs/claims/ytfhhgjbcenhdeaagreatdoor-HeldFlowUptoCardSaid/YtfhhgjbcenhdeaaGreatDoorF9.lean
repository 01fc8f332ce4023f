/- Parts of the proof. -/
import Derived.Test.YtfhhgjbcenhdeaaGreatDoorF7
import Derived.Test.YtfhhgjbcenhdeaaGreatDoorF8
set_option linter.unusedSimpArgs false
set_option linter.unusedVariables false
namespace Go.Je
open Go Go.FM Go.Proofs
set_option maxRecDepth 100000
set_option maxHeartbeats 40000000
theorem c31 (a b c : Int) : PC Tryz.prog Gl 72 [.int .i64 a, .int .i64 b, .int .i64 c] (.bool (decide (b <= a /\ a <= c))) := by
 refine a8v (res := [.tmp 6]) 7 15 [] (fun d ix => d :: ix) (fn := Tryz.f72) (by kernel_rfl) (by rfl) (by rfl) (by rfl) (by simp) (by decide) ?_
 repeat' first
  | with_reducible first | refine stp ?_ | refine stpK ?_; intro K hK | refine stpC ?_; intro T E hT hE | refine stp2 ?_ ?_ <;> intro h | refine a0g rfl ?_ | refine a0j rfl (by decide) a0i ?_ | refine a0j rfl (by decide) (a0h (by simp [upd, noH, ext, a4w, a3l, *])) ?_ | refine a1g (by decide) (by kernel_rfl) ?_ | refine a0o (by decide) ?_ | refine Kont.go hK ?_; clear hK K | refine KT.go hT ?_; clear hT hE T E | refine KT.go hE ?_; clear hT hE T E
  | simp [*, -List.all_flatten, -List.all_eq_true, a1l, Fs.init, Fs.get, Fs.put, Fs.clean, lk, upd, ext, noH, cv1, cv, rv, FV.isU, FV.cellV, FV.cellsL, FV.storable, b4f, b6u, b6t, fLen, fBin, fUn, c4q, b7n, b6s, a7x, b2q, pv, pv1, pv2, wv, b3t, wBox, a7v, a7c, b3s, b1v, b1f, wApp, srcA, a6q, upds, List.foldl_cons, List.foldl_nil, b2s, fNil, fUn2, c4r, fCmp, c2v, eqK, a3q, eqV, FV.kd, c4s, nilV, putD, b1q, a1r, a2d, b0w, a4b, b7s, resV, resL, a3n, StK, b4j, b1u, e2o, e2p, c9e, c9f, b7p, HG_t, HG_f, e2m, e2n, nl, nls, nlss, frz, frzs, frzR, asR, asRs, Fend, c9a, b5a, b2o, frzN, nf, nfs, a4w, a3l, a8q]
 all_goals (simp_all)
end Go.Je
namespace Go.Je
open Go Go.FM Go.Gv Go.Proofs
set_option maxRecDepth 100000
set_option maxHeartbeats 40000000
@[simp] theorem b0r : Program.eqGuardType Tryz.prog (Program.depth Tryz.prog) 98 = false /\ Program.eqGuardType Tryz.prog (Program.depth Tryz.prog) 4 = false /\ Program.eqGuardType Tryz.prog (Program.depth Tryz.prog) 5 = false /\ Program.eqGuardType Tryz.prog (Program.depth Tryz.prog) 9 = false /\ arE Tryz.prog 195 = none := by and_intros <;> kernel_rfl
@[simp] theorem b6r : arE Tryz.prog 130 = (some (3, 3)) := by kernel_rfl
@[simp] theorem f4b : arE Tryz.prog 210 = (some (53, 195)) /\ arE Tryz.prog 26 = none /\ arE Tryz.prog 98 = none /\ arE Tryz.prog 119 = none /\ arE Tryz.prog 9 = none /\ arT Tryz.prog 210 = (some (53, 2)) /\ arT Tryz.prog 22 = none /\ arT Tryz.prog 23 = none /\ arT Tryz.prog 24 = none /\ arT Tryz.prog 33 = none /\ arT Tryz.prog 36 = none /\ b7t Tryz.prog 98 = false /\ b7t Tryz.prog 4 = true /\ b7t Tryz.prog 5 = false /\ b7t Tryz.prog 9 = false /\ byT Tryz.prog 3 = (some 8) /\ byT Tryz.prog 35 = (some 56) /\ byT Tryz.prog 42 = (some 40) /\ byT Tryz.prog 36 = (some 24) /\ byT Tryz.prog 79 = (some 24) /\ byT Tryz.prog 9 = (some 16) /\ fldT Tryz.prog 195 1 = (some 1) /\ fldT Tryz.prog 26 0 = (some 0) /\ fldT Tryz.prog 26 1 = (some 1) /\ fldT Tryz.prog 26 2 = (some 2) /\ fldT Tryz.prog 26 3 = (some 3) /\ fldT Tryz.prog 35 0 = (some 0) /\ fldT Tryz.prog 35 1 = (some 1) /\ fldT Tryz.prog 35 2 = (some 2) /\ fldT Tryz.prog 35 3 = (some 3) := by and_intros <;> kernel_rfl
@[simp] theorem e8e : fldT Tryz.prog 42 0 = (some 0) /\ fldT Tryz.prog 42 1 = (some 1) /\ fldT Tryz.prog 42 2 = (some 2) /\ fldT Tryz.prog 42 3 = (some 3) /\ fldT Tryz.prog 42 4 = (some 4) /\ fldT Tryz.prog 79 0 = (some 0) /\ fldT Tryz.prog 79 1 = (some 1) /\ fldT Tryz.prog 119 0 = (some 0) /\ fldT Tryz.prog 119 1 = (some 4) /\ fnOk Tryz.prog 15 = true /\ fnOk Tryz.prog 166 = true /\ fnOk Tryz.prog 88 = true /\ fnOk Tryz.prog 139 = true /\ fnOk Tryz.prog 181 = true /\ fnOk Tryz.prog 39 = true /\ fnOk Tryz.prog 17 = true /\ fnOk Tryz.prog 72 = true /\ fnOk Tryz.prog 73 = true /\ fnOk Tryz.prog 74 = true /\ fnOk Tryz.prog 75 = true /\ fnOk Tryz.prog 76 = true /\ fnOk Tryz.prog 77 = true /\ fnOk Tryz.prog 45 = true /\ fnOk Tryz.prog 46 = true /\ fnOk Tryz.prog 123 = true /\ fnOk Tryz.prog 124 = true /\ fnOk Tryz.prog 125 = true /\ fnOk Tryz.prog 126 = true /\ fnOk Tryz.prog 127 = true /\ fnOk Tryz.prog 128 = true := by and_intros <;> kernel_rfl
@[simp] theorem f3y : fnOk Tryz.prog 86 = true /\ fnOk Tryz.prog 164 = true /\ intT Tryz.prog 98 = none /\ intT Tryz.prog 4 = none /\ intT Tryz.prog 5 = (some Go.IntKind.u8) /\ intT Tryz.prog 9 = none /\ kdT Tryz.prog 4 = (some Go.FM.Kd.bool) /\ kdT Tryz.prog 5 = (some (Go.FM.Kd.int Go.IntKind.u8)) /\ kdT Tryz.prog 9 = (some Go.FM.Kd.str) /\ ldT Tryz.prog 195 = (some (some 2)) /\ ldT Tryz.prog 210 = (some (some 106)) /\ ldT Tryz.prog 22 = (some none) /\ ldT Tryz.prog 23 = (some none) /\ ldT Tryz.prog 24 = (some none) /\ ldT Tryz.prog 26 = (some (some 4)) /\ ldT Tryz.prog 98 = (some (some 2)) /\ ldT Tryz.prog 33 = (some none) /\ ldT Tryz.prog 35 = (some (some 4)) /\ ldT Tryz.prog 42 = (some (some 5)) /\ ldT Tryz.prog 36 = (some none) /\ ldT Tryz.prog 79 = (some (some 2)) /\ ldT Tryz.prog 119 = (some (some 8)) /\ ldT Tryz.prog 9 = (some none) /\ nilT Tryz.prog 98 = none /\ nilT Tryz.prog 4 = none /\ nilT Tryz.prog 5 = none /\ nilT Tryz.prog 9 = none /\ a5d Tryz.prog 195 = (some ((0, 1) :: ((1, 1) :: []))) /\ a5d Tryz.prog 130 = none /\ a5d Tryz.prog 210 = none := by and_intros <;> kernel_rfl
@[simp] theorem e3t : a5d Tryz.prog 26 = (some ((0, 1) :: ((1, 1) :: ((2, 1) :: ((3, 1) :: []))))) /\ a5d Tryz.prog 119 = (some ((0, 4) :: ((4, 4) :: []))) /\ slT Tryz.prog 210 = none /\ slT Tryz.prog 22 = (some (35, 4)) /\ slT Tryz.prog 23 = (some (79, 2)) /\ slT Tryz.prog 24 = (some (36, 1)) /\ slT Tryz.prog 3 = none /\ slT Tryz.prog 33 = (some (42, 5)) /\ slT Tryz.prog 36 = (some (3, 1)) /\ slT Tryz.prog 117 = (some (9, 1)) /\ stT Tryz.prog 4 = none /\ stT Tryz.prog 5 = none /\ stT Tryz.prog 9 = none /\ strT Tryz.prog 130 = false /\ strT Tryz.prog 22 = false /\ strT Tryz.prog 23 = false /\ strT Tryz.prog 24 = false /\ strT Tryz.prog 3 = false /\ strT Tryz.prog 33 = false /\ strT Tryz.prog 36 = false /\ strT Tryz.prog 117 = false := by and_intros <;> kernel_rfl
@[simp] theorem e1l : strT Tryz.prog 9 = true := by kernel_rfl
@[simp] theorem f3u : szT Tryz.prog 195 = (some 2) /\ szT Tryz.prog 210 = (some 106) /\ szT Tryz.prog 22 = (some 1) /\ szT Tryz.prog 24 = (some 1) /\ szT Tryz.prog 26 = (some 4) := by and_intros <;> kernel_rfl
@[simp] theorem c4k : szT Tryz.prog 3 = (some 1) := by kernel_rfl
@[simp] theorem f5q : szT Tryz.prog 33 = (some 1) /\ szT Tryz.prog 35 = (some 4) /\ szT Tryz.prog 42 = (some 5) /\ szT Tryz.prog 79 = (some 2) /\ szT Tryz.prog 119 = (some 8) /\ a4l Tryz.prog 195 = some [FV.str (.mk (.mk [])), FV.str (.mk (.mk []))] /\ a4l Tryz.prog 130 = (some ((FV.int Go.IntKind.i64 0) :: ((FV.int Go.IntKind.i64 0) :: ((FV.int Go.IntKind.i64 0) :: [])))) /\ a4l Tryz.prog 210 = some [FV.str (.mk (.mk [])), FV.str (.mk (.mk [])), FV.str (.mk (.mk [])), FV.str (.mk (.mk [])), FV.str (.mk (.mk [])), FV.str (.mk (.mk [])), FV.str (.mk (.mk [])), FV.str (.mk (.mk [])), FV.str (.mk (.mk [])), FV.str (.mk (.mk [])), FV.str (.mk (.mk [])), FV.str (.mk (.mk [])), FV.str (.mk (.mk [])), FV.str (.mk (.mk [])), FV.str (.mk (.mk [])), FV.str (.mk (.mk [])), FV.str (.mk (.mk [])), FV.str (.mk (.mk [])), FV.str (.mk (.mk [])), FV.str (.mk (.mk [])), FV.str (.mk (.mk [])), FV.str (.mk (.mk [])), FV.str (.mk (.mk [])), FV.str (.mk (.mk [])), FV.str (.mk (.mk [])), FV.str (.mk (.mk [])), FV.str (.mk (.mk [])), FV.str (.mk (.mk [])), FV.str (.mk (.mk [])), FV.str (.mk (.mk [])), FV.str (.mk (.mk [])), FV.str (.mk (.mk [])), FV.str (.mk (.mk [])), FV.str (.mk (.mk [])), FV.str (.mk (.mk [])), FV.str (.mk (.mk [])), FV.str (.mk (.mk [])), FV.str (.mk (.mk [])), FV.str (.mk (.mk [])), FV.str (.mk (.mk [])), FV.str (.mk (.mk [])), FV.str (.mk (.mk [])), FV.str (.mk (.mk [])), FV.str (.mk (.mk [])), FV.str (.mk (.mk [])), FV.str (.mk (.mk [])), FV.str (.mk (.mk [])), FV.str (.mk (.mk [])), FV.str (.mk (.mk [])), FV.str (.mk (.mk [])), FV.str (.mk (.mk [])), FV.str (.mk (.mk [])), FV.str (.mk (.mk [])), FV.str (.mk (.mk [])), FV.str (.mk (.mk [])), FV.str (.mk (.mk [])), FV.str (.mk (.mk [])), FV.str (.mk (.mk [])), FV.str (.mk (.mk [])), FV.str (.mk (.mk [])), FV.str (.mk (.mk [])), FV.str (.mk (.mk [])), FV.str (.mk (.mk [])), FV.str (.mk (.mk [])), FV.str (.mk (.mk [])), FV.str (.mk (.mk [])), FV.str (.mk (.mk [])), FV.str (.mk (.mk [])), FV.str (.mk (.mk [])), FV.str (.mk (.mk [])), FV.str (.mk (.mk [])), FV.str (.mk (.mk [])), FV.str (.mk (.mk [])), FV.str (.mk (.mk [])), FV.str (.mk (.mk [])), FV.str (.mk (.mk [])), FV.str (.mk (.mk [])), FV.str (.mk (.mk [])), FV.str (.mk (.mk [])), FV.str (.mk (.mk [])), FV.str (.mk (.mk [])), FV.str (.mk (.mk [])), FV.str (.mk (.mk [])), FV.str (.mk (.mk [])), FV.str (.mk (.mk [])), FV.str (.mk (.mk [])), FV.str (.mk (.mk [])), FV.str (.mk (.mk [])), FV.str (.mk (.mk [])), FV.str (.mk (.mk [])), FV.str (.mk (.mk [])), FV.str (.mk (.mk [])), FV.str (.mk (.mk [])), FV.str (.mk (.mk [])), FV.str (.mk (.mk [])), FV.str (.mk (.mk [])), FV.str (.mk (.mk [])), FV.str (.mk (.mk [])), FV.str (.mk (.mk [])), FV.str (.mk (.mk [])), FV.str (.mk (.mk [])), FV.str (.mk (.mk [])), FV.str (.mk (.mk [])), FV.str (.mk (.mk [])), FV.str (.mk (.mk [])), FV.str (.mk (.mk []))] /\ a4l Tryz.prog 26 = (some (FV.nils :: (FV.nils :: (FV.nils :: ((FV.int Go.IntKind.i64 0) :: []))))) /\ a4l Tryz.prog 3 = (some ((FV.int Go.IntKind.i64 0) :: [])) /\ a4l Tryz.prog 35 = (some ((FV.str (.mk (.mk []))) :: ((FV.int Go.IntKind.i64 0) :: ((FV.int Go.IntKind.i64 0) :: (FV.nils :: []))))) /\ a4l Tryz.prog 42 = (some ((FV.int Go.IntKind.i64 0) :: ((FV.int Go.IntKind.i64 0) :: ((FV.int Go.IntKind.i64 0) :: ((FV.int Go.IntKind.i64 0) :: ((FV.int Go.IntKind.i64 0) :: [])))))) /\ a4l Tryz.prog 36 = (some (FV.nils :: [])) /\ a4l Tryz.prog 79 = (some ((FV.str (.mk (.mk []))) :: ((FV.int Go.IntKind.i64 0) :: []))) /\ a4l Tryz.prog 119 = (some (FV.nils :: (FV.nils :: (FV.nils :: ((FV.int Go.IntKind.i64 0) :: ((FV.str (.mk (.mk []))) :: ((FV.int Go.IntKind.i64 0) :: ((FV.int Go.IntKind.i64 0) :: (FV.nils :: []))))))))) /\ a4l Tryz.prog 9 = some [FV.str (.mk (.mk []))] := by and_intros <;> kernel_rfl
def a2f (n : Int) : List FV := [.int .i64 n]
def ints (L : List (Int)) : List (List FV) := L.map a2f
theorem a0n (L : List (Int)) : (ints L).length = L.length := by simp [ints]
theorem a4z {L : List (Int)} {i : Nat} (h : i < (ints L).length) : (ints L)[i] = a2f (L[i]'(by rwa [a0n] at h)) := by simp [ints]
theorem a4c (a b : List (Int)) : ints (a ++ b) = ints a ++ ints b := by simp [ints]
theorem a6n (a : Int) : ints [a] = [a2f a] := rfl
theorem a2r : ints [] = [] := rfl
theorem a3x (n : Nat) (l : List (Int)) : (ints l).take n = ints (l.take n) := by simp [ints, List.map_take]
theorem a0a (L : List (Int)) : nlss (ints L) = true := by
 induction L with
 | nil => rfl
 | cons r rs ih => simpa [ints, nlss, nls, nl, a2f] using ih
theorem a2g (L : List (Int)) : (ints L).flatten.all FV.cellV = true := by
 induction L with
 | nil => rfl
 | cons r rs ih => simp [ints, FV.cellV, a2f]
def _root_.Go.Gv.Ins.row (e : Ins) : List FV := [.int .i64 e.op, .int .i64 e.a, .int .i64 e.b, .int .i64 e.c, .int .i64 e.d]
def inss (L : List (Ins)) : List (List FV) := L.map Ins.row
theorem a0x (L : List (Ins)) : (inss L).length = L.length := by simp [inss]
theorem a2b {L : List (Ins)} {i : Nat} (h : i < (inss L).length) : (inss L)[i] = Ins.row (L[i]'(by rwa [a0x] at h)) := by simp [inss]
theorem b6d (a b : List (Ins)) : inss (a ++ b) = inss a ++ inss b := by simp [inss]
theorem c7j (a : Ins) : inss [a] = [Ins.row a] := rfl
theorem c7k : inss [] = [] := rfl
theorem d4p (n : Nat) (l : List (Ins)) : (inss l).take n = inss (l.take n) := by simp [inss, List.map_take]
theorem a0b (L : List (Ins)) : nlss (inss L) = true := by
 induction L with
 | nil => rfl
 | cons r rs ih => simpa [inss, nlss, nls, nl, Ins.row] using ih
def _root_.Go.Gv.FnD.row (e : FnD) : List FV := [.str e.name, .int .i64 e.params, .int .i64 e.regs, .list 5 (inss e.code)]
def fns (L : List (FnD)) : List (List FV) := L.map FnD.row
theorem a1c (L : List (FnD)) : (fns L).length = L.length := by simp [fns]
theorem a2o {L : List (FnD)} {i : Nat} (h : i < (fns L).length) : (fns L)[i] = FnD.row (L[i]'(by rwa [a1c] at h)) := by simp [fns]
theorem b8q (a b : List (FnD)) : fns (a ++ b) = fns a ++ fns b := by simp [fns]
theorem d5p (a : FnD) : fns [a] = [FnD.row a] := rfl
theorem d5q : fns [] = [] := rfl
theorem e1b (n : Nat) (l : List (FnD)) : (fns l).take n = fns (l.take n) := by simp [fns, List.map_take]
theorem a0e (L : List (FnD)) : nlss (fns L) = true := by
 induction L with
 | nil => rfl
 | cons r rs ih => simpa [fns, nlss, nls, nl, FnD.row, a0b] using ih
def _root_.Go.Gv.Gb.row (e : Gb) : List FV := [.str e.name, .int .i64 e.kind]
def gbs (L : List (Gb)) : List (List FV) := L.map Gb.row
theorem a3c (L : List (Gb)) : (gbs L).length = L.length := by simp [gbs]
theorem a9b {L : List (Gb)} {i : Nat} (h : i < (gbs L).length) : (gbs L)[i] = Gb.row (L[i]'(by rwa [a3c] at h)) := by simp [gbs]
theorem b8p (a b : List (Gb)) : gbs (a ++ b) = gbs a ++ gbs b := by simp [gbs]
theorem d5j (a : Gb) : gbs [a] = [Gb.row a] := rfl
theorem d5k : gbs [] = [] := rfl
theorem e0w (n : Nat) (l : List (Gb)) : (gbs l).take n = gbs (l.take n) := by simp [gbs, List.map_take]
theorem a0m (L : List (Gb)) : nlss (gbs L) = true := by
 induction L with
 | nil => rfl
 | cons r rs ih => simpa [gbs, nlss, nls, nl, Gb.row] using ih
def a3w (l : List Int) : List FV := [.list 1 (ints l)]
def lays (L : List (List Int)) : List (List FV) := L.map a3w
theorem a1n (L : List (List Int)) : (lays L).length = L.length := by simp [lays]
theorem a6k {L : List (List Int)} {i : Nat} (h : i < (lays L).length) : (lays L)[i] = a3w (L[i]'(by rwa [a1n] at h)) := by simp [lays]
theorem a8p (a b : List (List Int)) : lays (a ++ b) = lays a ++ lays b := by simp [lays]
theorem c7d (a : List Int) : lays [a] = [a3w a] := rfl
theorem b0m : lays [] = [] := rfl
theorem a4x (n : Nat) (l : List (List Int)) : (lays l).take n = lays (l.take n) := by simp [lays, List.map_take]
theorem a0c (L : List (List Int)) : nlss (lays L) = true := by
 induction L with
 | nil => rfl
 | cons r rs ih => simpa [lays, nlss, nls, nl, a3w, a0a] using ih
theorem a5g (L : List (List Int)) : (lays L).flatten.all FV.cellV = true := by
 induction L with
 | nil => rfl
 | cons r rs ih => simp [lays, FV.cellV, a3w]
def _root_.Go.Gv.Pg.row (p : Pg) : List FV := [.list 4 (fns p.funcs), .list 2 (gbs p.globals), .list 1 (lays p.layouts), .int .i64 p.main]
theorem wl (n : Nat) (h : n <= 1000000000) : IntKind.wrap .i64 ((n : Int) - 1) = (n : Int) - 1 := by rw [IntKind.wrap_i64]; omega
theorem wli {i : Nat} {m : Nat} (h : i < m) (hm : m <= 1000000000) : IntKind.wrap .i64 ((i : Int) + 1) = ((i + 1 : Nat) : Int) := by rw [IntKind.wrap_i64]; omega
set_option linter.defProp false
def NLQ := And.intro @a0a (And.intro @a0n (And.intro @a4c (And.intro @a6n (And.intro @a2r (And.intro @a0b (And.intro @a0x (And.intro @b6d (And.intro @c7j (And.intro @c7k (And.intro @a0e (And.intro @a1c (And.intro @b8q (And.intro @d5p (And.intro @d5q (And.intro @a0m (And.intro @a3c (And.intro @b8p (And.intro @d5j (And.intro @d5k (And.intro @a0c (And.intro @a1n (And.intro @a8p (And.intro @c7d @b0m)))))))))))))))))))))))
def wdI : Int -> ByteArray
 | 1 => ⟨⟨[99, 111, 110, 115, 116]⟩⟩
 | 2 => ⟨⟨[110, 105, 108]⟩⟩
 | 3 => ⟨⟨[109, 111, 118, 101]⟩⟩
 | 4 => ⟨⟨[97, 100, 100]⟩⟩
 | 5 => ⟨⟨[115, 117, 98]⟩⟩
 | 6 => ⟨⟨[109, 117, 108]⟩⟩
 | 7 => ⟨⟨[100, 105, 118]⟩⟩
 | 8 => ⟨⟨[114, 101, 109]⟩⟩
 | 9 => ⟨⟨[110, 101, 103]⟩⟩
 | 10 => ⟨⟨[110, 111, 116]⟩⟩
 | 11 => ⟨⟨[101, 113]⟩⟩
 | 12 => ⟨⟨[110, 101]⟩⟩
 | 13 => ⟨⟨[108, 116]⟩⟩
 | 14 => ⟨⟨[108, 101]⟩⟩
 | 15 => ⟨⟨[108, 101, 110]⟩⟩
 | 16 => ⟨⟨[106, 117, 109, 112]⟩⟩
 | 17 => ⟨⟨[106, 117, 109, 112, 122]⟩⟩
 | 18 => ⟨⟨[103, 108, 111, 98, 97, 108]⟩⟩
 | 19 => ⟨⟨[102, 105, 101, 108, 100]⟩⟩
 | 20 => ⟨⟨[105, 110, 100, 101, 120]⟩⟩
 | 21 => ⟨⟨[110, 101, 119]⟩⟩
 | 22 => ⟨⟨[115, 108, 105, 99, 101]⟩⟩
 | 23 => ⟨⟨[99, 104, 97, 110]⟩⟩
 | 24 => ⟨⟨[99, 108, 111, 115, 117, 114, 101]⟩⟩
 | 25 => ⟨⟨[99, 97, 112]⟩⟩
 | 26 => ⟨⟨[99, 97, 108, 108]⟩⟩
 | 27 => ⟨⟨[99, 97, 108, 108, 99]⟩⟩
 | 28 => ⟨⟨[100, 101, 102, 101, 114]⟩⟩
 | 29 => ⟨⟨[100, 101, 102, 101, 114, 99]⟩⟩
 | 30 => ⟨⟨[114, 101, 116, 117, 114, 110]⟩⟩
 | 31 => ⟨⟨[103, 111]⟩⟩
 | 32 => ⟨⟨[103, 111, 99]⟩⟩
 | 33 => ⟨⟨[108, 111, 97, 100]⟩⟩
 | 34 => ⟨⟨[115, 116, 111, 114, 101]⟩⟩
 | 35 => ⟨⟨[97, 108, 111, 97, 100]⟩⟩
 | 36 => ⟨⟨[97, 115, 116, 111, 114, 101]⟩⟩
 | 37 => ⟨⟨[97, 97, 100, 100]⟩⟩
 | 38 => ⟨⟨[97, 99, 97, 115]⟩⟩
 | 39 => ⟨⟨[108, 111, 99, 107]⟩⟩
 | 40 => ⟨⟨[117, 110, 108, 111, 99, 107]⟩⟩
 | 41 => ⟨⟨[114, 108, 111, 99, 107]⟩⟩
 | 42 => ⟨⟨[114, 117, 110, 108, 111, 99, 107]⟩⟩
 | 43 => ⟨⟨[103, 114, 111, 117, 112]⟩⟩
 | 44 => ⟨⟨[119, 97, 105, 116]⟩⟩
 | 45 => ⟨⟨[111, 110, 99, 101]⟩⟩
 | 46 => ⟨⟨[111, 110, 99, 101, 101, 110, 100]⟩⟩
 | 47 => ⟨⟨[115, 101, 110, 100]⟩⟩
 | 48 => ⟨⟨[114, 101, 99, 118]⟩⟩
 | 49 => ⟨⟨[99, 108, 111, 115, 101]⟩⟩
 | 50 => ⟨⟨[115, 101, 108, 101, 99, 116]⟩⟩
 | 51 => ⟨⟨[99, 97, 115, 101]⟩⟩
 | 52 => ⟨⟨[112, 114, 105, 110, 116]⟩⟩
 | _ => ⟨⟨[]⟩⟩
def rlI : Int -> ByteArray
 | 1 => ⟨⟨[100, 105, 45]⟩⟩
 | 2 => ⟨⟨[100, 45, 45]⟩⟩
 | 3 => ⟨⟨[100, 115, 45]⟩⟩
 | 4 => ⟨⟨[100, 115, 115]⟩⟩
 | 5 => ⟨⟨[100, 115, 115]⟩⟩
 | 6 => ⟨⟨[100, 115, 115]⟩⟩
 | 7 => ⟨⟨[100, 115, 115]⟩⟩
 | 8 => ⟨⟨[100, 115, 115]⟩⟩
 | 9 => ⟨⟨[100, 115, 45]⟩⟩
 | 10 => ⟨⟨[100, 115, 45]⟩⟩
 | 11 => ⟨⟨[100, 115, 115]⟩⟩
 | 12 => ⟨⟨[100, 115, 115]⟩⟩
 | 13 => ⟨⟨[100, 115, 115]⟩⟩
 | 14 => ⟨⟨[100, 115, 115]⟩⟩
 | 15 => ⟨⟨[100, 115, 45]⟩⟩
 | 16 => ⟨⟨[45, 45, 116]⟩⟩
 | 17 => ⟨⟨[115, 45, 116]⟩⟩
 | 18 => ⟨⟨[100, 103, 45]⟩⟩
 | 19 => ⟨⟨[100, 115, 110]⟩⟩
 | 20 => ⟨⟨[100, 115, 115]⟩⟩
 | 21 => ⟨⟨[100, 108, 45]⟩⟩
 | 22 => ⟨⟨[100, 115, 45]⟩⟩
 | 23 => ⟨⟨[100, 115, 45]⟩⟩
 | 24 => ⟨⟨[100, 99, 107]⟩⟩
 | 25 => ⟨⟨[100, 112, 45]⟩⟩
 | 26 => ⟨⟨[68, 102, 97]⟩⟩
 | 27 => ⟨⟨[115, 45, 45]⟩⟩
 | 28 => ⟨⟨[45, 102, 97]⟩⟩
 | 29 => ⟨⟨[115, 45, 45]⟩⟩
 | 30 => ⟨⟨[83, 45, 45]⟩⟩
 | 31 => ⟨⟨[45, 102, 97]⟩⟩
 | 32 => ⟨⟨[115, 45, 45]⟩⟩
 | 33 => ⟨⟨[100, 115, 45]⟩⟩
 | 34 => ⟨⟨[115, 115, 45]⟩⟩
 | 35 => ⟨⟨[100, 115, 45]⟩⟩
 | 36 => ⟨⟨[115, 115, 45]⟩⟩
 | 37 => ⟨⟨[100, 115, 115]⟩⟩
 | 38 => ⟨⟨[100, 115, 115]⟩⟩
 | 39 => ⟨⟨[115, 45, 45]⟩⟩
 | 40 => ⟨⟨[115, 45, 45]⟩⟩
 | 41 => ⟨⟨[115, 45, 45]⟩⟩
 | 42 => ⟨⟨[115, 45, 45]⟩⟩
 | 43 => ⟨⟨[115, 115, 45]⟩⟩
 | 44 => ⟨⟨[115, 45, 45]⟩⟩
 | 45 => ⟨⟨[115, 45, 116]⟩⟩
 | 46 => ⟨⟨[115, 45, 45]⟩⟩
 | 47 => ⟨⟨[115, 115, 45]⟩⟩
 | 48 => ⟨⟨[68, 115, 68]⟩⟩
 | 49 => ⟨⟨[115, 45, 45]⟩⟩
 | 50 => ⟨⟨[100, 120, 98]⟩⟩
 | 51 => ⟨⟨[115, 98, 118]⟩⟩
 | 52 => ⟨⟨[115, 45, 45]⟩⟩
 | _ => ⟨⟨[]⟩⟩
def rlR : Int -> ByteArray
 | 1 => ⟨⟨[100, 105, 45]⟩⟩
 | 2 => ⟨⟨[100, 45, 45]⟩⟩
 | 3 => ⟨⟨[100, 114, 45]⟩⟩
 | 4 => ⟨⟨[100, 114, 114]⟩⟩
 | 5 => ⟨⟨[100, 114, 114]⟩⟩
 | 6 => ⟨⟨[100, 114, 114]⟩⟩
 | 7 => ⟨⟨[100, 114, 114]⟩⟩
 | 8 => ⟨⟨[100, 114, 114]⟩⟩
 | 9 => ⟨⟨[100, 114, 45]⟩⟩
 | 10 => ⟨⟨[100, 114, 45]⟩⟩
 | 11 => ⟨⟨[100, 114, 114]⟩⟩
 | 12 => ⟨⟨[100, 114, 114]⟩⟩
 | 13 => ⟨⟨[100, 114, 114]⟩⟩
 | 14 => ⟨⟨[100, 114, 114]⟩⟩
 | 15 => ⟨⟨[100, 114, 45]⟩⟩
 | 16 => ⟨⟨[45, 45, 106]⟩⟩
 | 17 => ⟨⟨[114, 45, 106]⟩⟩
 | 18 => ⟨⟨[100, 103, 45]⟩⟩
 | 19 => ⟨⟨[100, 114, 110]⟩⟩
 | 20 => ⟨⟨[100, 114, 114]⟩⟩
 | 21 => ⟨⟨[100, 108, 45]⟩⟩
 | 22 => ⟨⟨[100, 114, 45]⟩⟩
 | 23 => ⟨⟨[100, 114, 45]⟩⟩
 | 24 => ⟨⟨[100, 49, 110]⟩⟩
 | 25 => ⟨⟨[100, 110, 45]⟩⟩
 | 26 => ⟨⟨[68, 102, 97]⟩⟩
 | 27 => ⟨⟨[114, 45, 45]⟩⟩
 | 28 => ⟨⟨[45, 102, 97]⟩⟩
 | 29 => ⟨⟨[114, 45, 45]⟩⟩
 | 30 => ⟨⟨[82, 45, 45]⟩⟩
 | 31 => ⟨⟨[45, 102, 97]⟩⟩
 | 32 => ⟨⟨[114, 45, 45]⟩⟩
 | 33 => ⟨⟨[100, 114, 45]⟩⟩
 | 34 => ⟨⟨[114, 114, 45]⟩⟩
 | 35 => ⟨⟨[100, 114, 45]⟩⟩
 | 36 => ⟨⟨[114, 114, 45]⟩⟩
 | 37 => ⟨⟨[100, 114, 114]⟩⟩
 | 38 => ⟨⟨[100, 114, 114]⟩⟩
 | 39 => ⟨⟨[114, 45, 45]⟩⟩
 | 40 => ⟨⟨[114, 45, 45]⟩⟩
 | 41 => ⟨⟨[114, 45, 45]⟩⟩
 | 42 => ⟨⟨[114, 45, 45]⟩⟩
 | 43 => ⟨⟨[114, 114, 45]⟩⟩
 | 44 => ⟨⟨[114, 45, 45]⟩⟩
 | 45 => ⟨⟨[114, 45, 106]⟩⟩
 | 46 => ⟨⟨[114, 45, 45]⟩⟩
 | 47 => ⟨⟨[114, 114, 45]⟩⟩
 | 48 => ⟨⟨[68, 114, 68]⟩⟩
 | 49 => ⟨⟨[114, 45, 45]⟩⟩
 | 50 => ⟨⟨[100, 115, 98]⟩⟩
 | 51 => ⟨⟨[114, 98, 99]⟩⟩
 | 52 => ⟨⟨[114, 45, 45]⟩⟩
 | _ => ⟨⟨[]⟩⟩
theorem d2p {n : Int} (h : ¬ (1 <= n /\ n <= 52)) : rlR n = ⟨⟨[]⟩⟩ := by
 unfold rlR; split <;> first | (exfalso; omega) | rfl
theorem f7l {n : Int} (h : ¬ (1 <= n /\ n <= 52)) (k : Int) (h1 : 1 <= k) (h2 : k <= 52) : (n = k) = False := by simp only [eq_iff_iff, iff_false]; omega
theorem c130 : PC Tryz.prog Gl 181 [] (.agg [.str ⟨⟨[]⟩⟩, .str ⟨⟨[]⟩⟩, .str ⟨⟨[99, 111, 110, 115, 116]⟩⟩, .str ⟨⟨[100, 105, 45]⟩⟩, .str ⟨⟨[110, 105, 108]⟩⟩, .str ⟨⟨[100, 45, 45]⟩⟩, .str ⟨⟨[109, 111, 118, 101]⟩⟩, .str ⟨⟨[100, 115, 45]⟩⟩, .str ⟨⟨[97, 100, 100]⟩⟩, .str ⟨⟨[100, 115, 115]⟩⟩, .str ⟨⟨[115, 117, 98]⟩⟩, .str ⟨⟨[100, 115, 115]⟩⟩, .str ⟨⟨[109, 117, 108]⟩⟩, .str ⟨⟨[100, 115, 115]⟩⟩, .str ⟨⟨[100, 105, 118]⟩⟩, .str ⟨⟨[100, 115, 115]⟩⟩, .str ⟨⟨[114, 101, 109]⟩⟩, .str ⟨⟨[100, 115, 115]⟩⟩, .str ⟨⟨[110, 101, 103]⟩⟩, .str ⟨⟨[100, 115, 45]⟩⟩, .str ⟨⟨[110, 111, 116]⟩⟩, .str ⟨⟨[100, 115, 45]⟩⟩, .str ⟨⟨[101, 113]⟩⟩, .str ⟨⟨[100, 115, 115]⟩⟩, .str ⟨⟨[110, 101]⟩⟩, .str ⟨⟨[100, 115, 115]⟩⟩, .str ⟨⟨[108, 116]⟩⟩, .str ⟨⟨[100, 115, 115]⟩⟩, .str ⟨⟨[108, 101]⟩⟩, .str ⟨⟨[100, 115, 115]⟩⟩, .str ⟨⟨[108, 101, 110]⟩⟩, .str ⟨⟨[100, 115, 45]⟩⟩, .str ⟨⟨[106, 117, 109, 112]⟩⟩, .str ⟨⟨[45, 45, 116]⟩⟩, .str ⟨⟨[106, 117, 109, 112, 122]⟩⟩, .str ⟨⟨[115, 45, 116]⟩⟩, .str ⟨⟨[103, 108, 111, 98, 97, 108]⟩⟩, .str ⟨⟨[100, 103, 45]⟩⟩, .str ⟨⟨[102, 105, 101, 108, 100]⟩⟩, .str ⟨⟨[100, 115, 110]⟩⟩, .str ⟨⟨[105, 110, 100, 101, 120]⟩⟩, .str ⟨⟨[100, 115, 115]⟩⟩, .str ⟨⟨[110, 101, 119]⟩⟩, .str ⟨⟨[100, 108, 45]⟩⟩, .str ⟨⟨[115, 108, 105, 99, 101]⟩⟩, .str ⟨⟨[100, 115, 45]⟩⟩, .str ⟨⟨[99, 104, 97, 110]⟩⟩, .str ⟨⟨[100, 115, 45]⟩⟩, .str ⟨⟨[99, 108, 111, 115, 117, 114, 101]⟩⟩, .str ⟨⟨[100, 99, 107]⟩⟩, .str ⟨⟨[99, 97, 112]⟩⟩, .str ⟨⟨[100, 112, 45]⟩⟩, .str ⟨⟨[99, 97, 108, 108]⟩⟩, .str ⟨⟨[68, 102, 97]⟩⟩, .str ⟨⟨[99, 97, 108, 108, 99]⟩⟩, .str ⟨⟨[115, 45, 45]⟩⟩, .str ⟨⟨[100, 101, 102, 101, 114]⟩⟩, .str ⟨⟨[45, 102, 97]⟩⟩, .str ⟨⟨[100, 101, 102, 101, 114, 99]⟩⟩, .str ⟨⟨[115, 45, 45]⟩⟩, .str ⟨⟨[114, 101, 116, 117, 114, 110]⟩⟩, .str ⟨⟨[83, 45, 45]⟩⟩, .str ⟨⟨[103, 111]⟩⟩, .str ⟨⟨[45, 102, 97]⟩⟩, .str ⟨⟨[103, 111, 99]⟩⟩, .str ⟨⟨[115, 45, 45]⟩⟩, .str ⟨⟨[108, 111, 97, 100]⟩⟩, .str ⟨⟨[100, 115, 45]⟩⟩, .str ⟨⟨[115, 116, 111, 114, 101]⟩⟩, .str ⟨⟨[115, 115, 45]⟩⟩, .str ⟨⟨[97, 108, 111, 97, 100]⟩⟩, .str ⟨⟨[100, 115, 45]⟩⟩, .str ⟨⟨[97, 115, 116, 111, 114, 101]⟩⟩, .str ⟨⟨[115, 115, 45]⟩⟩, .str ⟨⟨[97, 97, 100, 100]⟩⟩, .str ⟨⟨[100, 115, 115]⟩⟩, .str ⟨⟨[97, 99, 97, 115]⟩⟩, .str ⟨⟨[100, 115, 115]⟩⟩, .str ⟨⟨[108, 111, 99, 107]⟩⟩, .str ⟨⟨[115, 45, 45]⟩⟩, .str ⟨⟨[117, 110, 108, 111, 99, 107]⟩⟩, .str ⟨⟨[115, 45, 45]⟩⟩, .str ⟨⟨[114, 108, 111, 99, 107]⟩⟩, .str ⟨⟨[115, 45, 45]⟩⟩, .str ⟨⟨[114, 117, 110, 108, 111, 99, 107]⟩⟩, .str ⟨⟨[115, 45, 45]⟩⟩, .str ⟨⟨[103, 114, 111, 117, 112]⟩⟩, .str ⟨⟨[115, 115, 45]⟩⟩, .str ⟨⟨[119, 97, 105, 116]⟩⟩, .str ⟨⟨[115, 45, 45]⟩⟩, .str ⟨⟨[111, 110, 99, 101]⟩⟩, .str ⟨⟨[115, 45, 116]⟩⟩, .str ⟨⟨[111, 110, 99, 101, 101, 110, 100]⟩⟩, .str ⟨⟨[115, 45, 45]⟩⟩, .str ⟨⟨[115, 101, 110, 100]⟩⟩, .str ⟨⟨[115, 115, 45]⟩⟩, .str ⟨⟨[114, 101, 99, 118]⟩⟩, .str ⟨⟨[68, 115, 68]⟩⟩, .str ⟨⟨[99, 108, 111, 115, 101]⟩⟩, .str ⟨⟨[115, 45, 45]⟩⟩, .str ⟨⟨[115, 101, 108, 101, 99, 116]⟩⟩, .str ⟨⟨[100, 120, 98]⟩⟩, .str ⟨⟨[99, 97, 115, 101]⟩⟩, .str ⟨⟨[115, 98, 118]⟩⟩, .str ⟨⟨[112, 114, 105, 110, 116]⟩⟩, .str ⟨⟨[115, 45, 45]⟩⟩]) := by
 refine a8v (res := [.cell 0 210]) 1 54 [] (fun d ix => d :: ix) (fn := Tryz.f181) (by kernel_rfl) (by rfl) (by rfl) (by rfl) (by simp) (by decide) ?_
 repeat' first
  | with_reducible first | refine stp ?_ | refine stpK ?_; intro K hK | refine stpC ?_; intro T E hT hE | refine stp2 ?_ ?_ <;> intro h | refine a0g rfl ?_ | refine a0j rfl (by decide) a0i ?_ | refine a0j rfl (by decide) (a0h (by simp [upd, noH, ext, a4w, a3l, *])) ?_ | refine a1g (by decide) (by kernel_rfl) ?_ | refine a0o (by decide) ?_ | refine Kont.go hK ?_; clear hK K | refine KT.go hT ?_; clear hT hE T E | refine KT.go hE ?_; clear hT hE T E
  | simp [*, -List.all_flatten, -List.all_eq_true, DEFO]
theorem c8p (n : Int) (h : 1 <= n /\ n <= 52) : PC Tryz.prog Gl 164 [.int .i64 n] (.tup [.agg [.str (wdI n), .str (rlI n)], .bool true]) := by
 rcases Gv.b4r h with rfl | rfl | rfl | rfl | rfl | rfl | rfl | rfl | rfl | rfl | rfl | rfl | rfl | rfl | rfl | rfl | rfl | rfl | rfl | rfl | rfl | rfl | rfl | rfl | rfl | rfl | rfl | rfl | rfl | rfl | rfl | rfl | rfl | rfl | rfl | rfl | rfl | rfl | rfl | rfl | rfl | rfl | rfl | rfl | rfl | rfl | rfl | rfl | rfl | rfl | rfl | rfl
 all_goals
  refine a8v (res := [.cell 2 195, .tmp 3]) 5 16 [] (fun d ix => d :: ix) (fn := Tryz.f164) (by kernel_rfl) (by rfl) (by rfl) (by rfl) (by simp) (by decide) ?_
  repeat' first
   | with_reducible first | refine stp ?_ | refine stpK ?_; intro K hK | refine stpC ?_; intro T E hT hE | refine stp2 ?_ ?_ <;> intro h | refine a0g rfl ?_ | refine a1e c130 (by simp [nls, nl]) ?_ | refine hpc c130 (by simp [nls, nl]) ?_ | refine a0j rfl (by decide) a0i ?_ | refine a0j rfl (by decide) (a0h (by simp [upd, noH, ext, a4w, a3l, *])) ?_ | refine a1g (by decide) (by kernel_rfl) ?_ | refine a0o (by decide) ?_ | refine Kont.go hK ?_; clear hK K | refine KT.go hT ?_; clear hT hE T E | refine KT.go hE ?_; clear hT hE T E
   | simp [*, -List.all_flatten, -List.all_eq_true, DEFO, FV.cellV, wdI, rlI]
theorem d7b (n : Int) (h : ¬ (1 <= n /\ n <= 52)) : PC Tryz.prog Gl 164 [.int .i64 n] (.tup [.agg [.str ⟨⟨[]⟩⟩, .str ⟨⟨[]⟩⟩], .bool false]) := by
 have h1 : n <= 0 \/ 53 <= n := by omega
 have ne := f7l h
 refine a8v (res := [.cell 2 195, .tmp 3]) 5 16 [] (fun d ix => d :: ix) (fn := Tryz.f164) (by kernel_rfl) (by rfl) (by rfl) (by rfl) (by simp) (by decide) ?_
 repeat' first
  | with_reducible first | refine stp ?_ | refine stpK ?_; intro K hK | refine stpC ?_; intro T E hT hE | refine stp2 ?_ ?_ <;> intro h | refine a0g rfl ?_ | refine a1e c130 (by simp [nls, nl, *, a0b, a0e, a0m, a0c, a0a]) ?_ | refine hpc c130 (by simp [nls, nl, *, a0b, a0e, a0m, a0c, a0a]) ?_ | refine a0j rfl (by decide) a0i ?_ | refine a0j rfl (by decide) (a0h (by simp [upd, noH, ext, a4w, a3l, *])) ?_ | refine a1g (by decide) (by kernel_rfl) ?_ | refine a0o (by decide) ?_ | refine Kont.go hK ?_; clear hK K | refine KT.go hT ?_; clear hT hE T E | refine KT.go hE ?_; clear hT hE T E
  | simp [*, -List.all_flatten, -List.all_eq_true, DEFO, FV.cellV]
 all_goals (first | (exfalso; omega) | trace_state)
theorem c113 (n : Int) : PC Tryz.prog Gl 88 [.int .i64 n] (.str (rlR n)) := by
 refine a8v (res := [.tmp 2]) 3 75 [3] (fun d ix => d :: ix) (fn := Tryz.f88) (by kernel_rfl) (by rfl) (by rfl) (by rfl) (by simp) (by decide) ?_
 repeat' first
  | with_reducible first | refine stp ?_ | refine stpK ?_; intro K hK | refine stpC ?_; intro T E hT hE | refine stp2 ?_ ?_ <;> intro h | refine a0g rfl ?_ | refine a0j rfl (by decide) a0i ?_ | refine a0j rfl (by decide) (a0h (by simp [upd, noH, ext, a4w, a3l, *])) ?_ | refine a1g (by decide) (by kernel_rfl) ?_ | refine a0o (by decide) ?_ | refine Kont.go hK ?_; clear hK K | refine KT.go hT ?_; clear hT hE T E | refine KT.go hE ?_; clear hT hE T E
  | simp [*, -List.all_flatten, -List.all_eq_true, DEFO]
 all_goals first
  | (subst n; rfl)
  | (rw [d2p (by omega)])
  | trace_state
theorem d7c (n : Int) (_ : 1 <= n /\ n <= 52) : PC Tryz.prog Gl 88 [.int .i64 n] (.str (rlR n)) := c113 n
theorem c8q (n : Int) (h : ¬ (1 <= n /\ n <= 52)) : PC Tryz.prog Gl 88 [.int .i64 n] (.str ⟨⟨[]⟩⟩) := by
 rw [<- d2p h]; exact c113 n
end Go.Je
namespace Go.Gv
open Go Go.FM
set_option maxRecDepth 100000
set_option maxHeartbeats 40000000
def LS (g : Pts -> Pts) (C : Pts -> Prop) : Prop := ∀ x z, C z -> sub x z -> sub (g x) z
theorem b5l {y z : Pts} (h : sub y z) (o : Int) : ∀ v ∈ cl y o, v ∈ cl z o := fun v hv => by
 rw [<- b6k] at hv ⊢; exact h.2 _ v hv
theorem LS.id : LS (fun x => x) (fun _ => True) := fun _ _ _ h => h
theorem LS.comp {g h : Pts -> Pts} {C D : Pts -> Prop} (hg : LS g C) (hh : LS h D) : LS (fun x => h (g x)) (fun z => C z /\ D z) := fun x z hc hs => hh _ z hc.2 (hg x z hc.1 hs)
theorem LS.congr {g g' : Pts -> Pts} {C D : Pts -> Prop} (hg : LS g C) (e : ∀ x, g' x = g x) (h : ∀ z, D z -> C z) : LS g' D := fun x z hd hs => by rw [e]; exact hg x z (h z hd) hs
theorem LS.addR {i : Nat} {a : Int} {S : Pts -> List Int} (hS : ∀ x z, sub x z -> ∀ o ∈ S x, o ∈ S z) : LS (fun x => addR x i a (S x)) (fun z => subR (rg z i a) (S z)) := fun x z hC h => by
 refine ⟨h.1, fun t o ho => ?_⟩
 cases t with
 | r g b =>
   have ho : o ∈ rg (Gv.addR x i a (S x)) g (b : Int) := ho
   show o ∈ rg z g (b : Int)
   rw [c3u] at ho
   split at ho
   . rename_i e
     have e2 : rg z g (b : Int) = rg z i a := by unfold rg; rw [e.1.1, e.2.1]
     rw [e2]
     rcases a6c.1 ho with h1 | h1
     . exact a9m h i a o h1
     . exact hC o (hS x z h o h1)
   . exact a9m h g (b : Int) o ho
 | c b => exact h.2 (.c b) o ho
theorem LS.addC {c : Int} {S : Pts -> List Int} (hS : ∀ x z, sub x z -> ∀ o ∈ S x, o ∈ S z) : LS (fun x => addC x c (S x)) (fun z => subR (cl z c) (S z)) := fun x z hC h => by
 refine ⟨h.1, fun t o ho => ?_⟩
 cases t with
 | r g b => exact h.2 (.r g b) o ho
 | c b =>
   have ho : o ∈ (x.cells.set c.toNat (a7f (cl x c) (S x))).getD (b : Int).toNat [] := ho
   show o ∈ cl z (b : Int)
   rw [a5j] at ho
   split at ho
   . rename_i e
     have e2 : cl z (b : Int) = cl z c := by unfold cl; rw [e.1]
     rw [e2]
     rcases a6c.1 ho with h1 | h1
     . exact b5l h c o h1
     . exact hC o (hS x z h o h1)
   . exact b5l h (b : Int) o ho
theorem LS.foldl {α : Type} {g : Pts -> α -> Pts} {C : Pts -> α -> Prop} {l : List α} (h : ∀ a ∈ l, LS (fun y => g y a) (fun z => C z a)) : LS (fun x => l.foldl g x) (fun z => ∀ a ∈ l, C z a) := by
 induction l with
 | nil => exact fun x z _ hs => hs
 | cons a l ih => exact fun x z hc hs => ih (fun b hb => h b (by simp [hb])) (g x a) z (fun b hb => hc b (by simp [hb])) (h a (by simp) x z (hc a (by simp)) hs)
theorem LS.at {α : Type} {g : Pts -> α -> Pts} {C : Pts -> α -> Prop} {l : Pts -> List α} (hl : ∀ x z, sub x z -> ∀ a ∈ l x, a ∈ l z) (h : ∀ a, LS (fun y => g y a) (fun z => C z a)) : LS (fun x => (l x).foldl g x) (fun z => ∀ a ∈ l z, C z a) := fun x z hc hs =>
 LS.foldl (C := C) (l := l x) (fun a _ => h a) x z (fun a ha => hc a (hl x z hs a ha)) hs
theorem b4x {l S : Pts -> List Int} (hl : ∀ x z, sub x z -> ∀ a ∈ l x, a ∈ l z) (hS : ∀ x z, sub x z -> ∀ o ∈ S x, o ∈ S z) : LS (fun x => b3q x (l x) (S x)) (fun z => ∀ c ∈ l z, subR (cl z c) (S z)) := fun x z hc hs => by
 have h1 : LS (fun y => (l x).foldl (fun y o => Gv.addC y o (S x)) y) (fun z => ∀ c ∈ l x, subR (cl z c) (S x)) := LS.foldl fun c _ => LS.addC fun _ _ _ _ h => h
 exact h1 x z (fun c hc' o ho => hc c (hl x z hs c hc') o (hS x z hs o ho)) hs
theorem a7g {i : Nat} {a : Int} : ∀ x z, sub x z -> ∀ o ∈ rg x i a, o ∈ rg z i a := fun _ _ h => a9m h i a
theorem b9z {i : Nat} {a b : Int} : LS (fun x => addR x i a (b7m x (rg x i b))) (fun z => ∀ o ∈ rg z i b, subR (rg z i a) (cl z o)) :=
 (LS.addR fun x z h o ho => by
  obtain ⟨c, hc, ho⟩ := b4w.1 ho
  exact b4w.2 ⟨c, a9m h i b c hc, b5l h c o ho⟩).congr (fun _ => rfl) fun z hz => c6c.2 hz
theorem d3w {i : Nat} {n : Ins} (k : Nat) : LS (fun x => e6o x i n k) (fun x => ∀ j : Nat, j < k -> subR (rg x n.b.toNat j) (rg x i (n.c + j))) :=
 (LS.foldl (l := List.range k) (g := fun y (j : Nat) => Gv.addR y n.b.toNat j (rg y i (n.c + j))) (C := fun x j => subR (rg x n.b.toNat j) (rg x i (n.c + j))) fun j _ => LS.addR a7g).congr (fun _ => rfl) fun x h j hj => h j (by simpa using hj)
theorem e7b {i : Nat} {n : Ins} (code : List Ins) : LS (fun x => e6d x i n code) (fun x => ∀ m ∈ code, m.op = 30 /\ 0 <= m.a -> subR (rg x i n.a) (rg x n.b.toNat m.a)) := by
 refine LS.foldl (g := fun y (m : Ins) => if m.op = 30 /\ 0 <= m.a then Gv.addR y i n.a (rg y n.b.toNat m.a) else y) (C := fun x m => m.op = 30 /\ 0 <= m.a -> subR (rg x i n.a) (rg x n.b.toNat m.a)) fun m _ => ?_
 by_cases h : m.op = 30 /\ 0 <= m.a
 . simp only [h, and_self, if_true, true_imp_iff]
   exact LS.addR a7g
 . simp only [h, if_false, false_imp_iff]
   exact LS.id
theorem e7d {i : Nat} {n : Ins} {o : Int} (k : Nat) : LS (fun x => e8p x i n o k) (fun x => ∀ j : Nat, j < k -> subR (cl x o) (rg x i (n.a + (j + 1)))) :=
 (LS.foldl (l := List.range k) (g := fun y (j : Nat) => b3q y [o] (rg y i (n.a + (j + 1)))) (C := fun x j => ∀ c ∈ [o], subR (cl x c) (rg x i (n.a + (j + 1)))) fun j _ => b4x (l := fun _ => [o]) (S := fun x => rg x i (n.a + (j + 1))) (fun _ _ _ _ h => h) a7g).congr (fun _ => rfl) fun x h j hj c hc => by
  rw [List.mem_singleton] at hc; subst hc; exact h j (by simpa using hj)
theorem e7e {p : Pg} (hp : VOk p) (i : Nat) (a : Int) : LS (fun x => e8s p x (rg x i a)) (fun x => ∀ o ∈ rg x i a, ∀ k ∈ a5w p x o, subR (rg x k.toNat 0) [o]) :=
 LS.at (C := fun x (o : Int) => ∀ k ∈ a5w p x o, subR (rg x k.toNat 0) [o]) a7g fun o =>
  LS.at (C := fun y (k : Int) => subR (rg y k.toNat 0) [o]) (fun _ _ h => b2n hp h) fun k => LS.addR fun _ _ _ _ h => h
theorem e7a {p : Pg} (hp : VOk p) {i : Nat} (pc : Nat) (n : Ins) : LS (d2a p i pc n) (a3h p i pc n) := by
 unfold d2a a3h
 by_cases e : n.op = 18
 . simp only [e, if_true]; exact LS.addR fun _ _ _ _ h => h
 simp only [e, if_false]
 by_cases e : alO n.op = true
 . simp only [e, if_true]
   have h1 : LS (fun x => Gv.addR x i n.a [(objR (a0l p) ((i : Int), (pc : Int)) : Int)]) (fun z => subR (rg z i n.a) [(objR (a0l p) ((i : Int), (pc : Int)) : Int)]) := LS.addR fun _ _ _ _ h => h
   by_cases e2 : n.op = 24
   . simp only [e2, if_true, true_imp_iff]
     exact ((e7d (i := i) (n := n) n.c.toNat).comp h1).congr (fun _ => rfl) fun z h => And.comm.1 h
   . simp only [e2, if_false, false_imp_iff, and_true]
     exact h1
 simp only [e]
 by_cases e : n.op = 3 \/ n.op = 19 \/ n.op = 20
 . simp only [e, if_true]; exact LS.addR a7g
 simp only [e, if_false]
 by_cases e : n.op = 25
 . simp only [e, if_true]; exact b9z
 simp only [e, if_false]
 by_cases e : n.op = 33 \/ n.op = 35
 . simp only [e, if_true]; exact b9z
 simp only [e, if_false]
 by_cases e : n.op = 34 \/ n.op = 36 \/ n.op = 47
 . simp only [e, if_true]; exact b4x a7g a7g
 simp only [e, if_false]
 by_cases e : n.op = 38
 . simp only [e, if_true]; exact b4x a7g a7g
 simp only [e, if_false]
 by_cases e : n.op = 48
 . simp only [e, if_true]
   by_cases h0 : 0 <= n.a
   . simp only [h0, if_true, true_imp_iff]; exact b9z
   . simp only [h0, if_false, false_imp_iff]; exact LS.id
 simp only [e, if_false]
 by_cases e : n.op = 51
 . simp only [e, if_true]
   by_cases h1 : n.b = 1
   . simp only [h1, if_true]; exact b4x a7g a7g
   . simp only [h1, if_false]
     by_cases h0 : 0 <= n.c
     . simp only [h0, if_true, true_imp_iff]; exact b9z
     . simp only [h0, if_false, false_imp_iff]; exact LS.id
 simp only [e, if_false]
 by_cases e : n.op = 26 \/ n.op = 28 \/ n.op = 31
 . simp only [e, if_true]
   by_cases e2 : n.op = 26 /\ 0 <= n.a
   . have := (d3w (i := i) (n := n) ((fnAt p n.b).params.toNat)).comp (e7b (i := i) (n := n) (fnAt p n.b).code)
     simp only [e2, and_self, if_true, true_imp_iff]
     exact this
   . simp only [e2, if_false, false_imp_iff, and_true]
     exact d3w _
 simp only [e, if_false]
 by_cases e : n.op = 27 \/ n.op = 29 \/ n.op = 32
 . simp only [e, if_true]; exact e7e hp i n.a
 simp only [e, if_false]
 exact LS.id
theorem e7c {p : Pg} (hp : VOk p) {i : Nat} {code : List Ins} (k : Nat) (hk : k <= code.length) : LS (c4x p i code k) (fun x => ∀ j (hj : j < code.length), j < k -> a3h p i j code[j] x) := by
 induction k with
 | zero => exact LS.id.congr (fun _ => rfl) fun z _ => trivial
 | succ k ih =>
   have hk' : k < code.length := by omega
   have := (ih (by omega)).comp (e7a hp (i := i) k code[k])
   exact this.congr (fun x => by simp only [c4x, gE_ hk']) fun x h => ⟨fun j hj hjk => h j hj (by omega), h k hk' (by omega)⟩
theorem e0a {p : Pg} (hp : VOk p) (k : Nat) (hk : k <= p.funcs.length) : LS (fun x => c3w p x k) (fun x => ∀ i (hi : i < p.funcs.length), i < k -> ∀ j (hj : j < p.funcs[i].code.length), a3h p i j p.funcs[i].code[j] x) := by
 induction k with
 | zero => exact LS.id.congr (fun _ => rfl) fun z _ => trivial
 | succ k ih =>
   have hk' : k < p.funcs.length := by omega
   have := (ih (by omega)).comp (e7c hp (i := k) (code := p.funcs[k].code) _ (nr_ _))
   exact this.congr (fun x => by simp only [c3w, gE_ hk']) fun x h => ⟨fun i hi hik j hj => h i hi (by omega) j hj, fun j hj _ => h k hk' (by omega) j hj⟩
theorem c9y {p : Pg} (hp : VOk p) {x z : Pts} (hz : a5t p z) (h : sub x z) : sub (b5v p x) z :=
 e0a hp p.funcs.length (nr_ _) x z (fun i hi _ j hj => hz i hi j hj) h
end Go.Gv
