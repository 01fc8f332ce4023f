/- Parts of the proof. -/
import Derived.Test.YtfhhgjbcenhdeaaGreatQ7
import Derived.Test.YtfhhgjbcenhdeaaGreatQ8
import Derived.Test.YtfhhgjbcenhdeaaGreatQ2
import Derived.WalkKit
set_option linter.unusedSimpArgs false
set_option linter.unusedVariables false
namespace Go.Ge
open Go Go.FM Go.Proofs
set_option maxRecDepth 100000
set_option maxHeartbeats 40000000
theorem a6b (m n : Nat) : ((m : Int) = (n : Int)) = (m = n) := by rw [Int.ofNat_inj]
theorem c31 (a b c : Int) : PC Tryz.prog Gl 44 [.int .i64 a, .int .i64 b, .int .i64 c] (.bool (decide (b <= a /\ a <= c))) := by
 refine b0f (res := [.tmp 6]) 7 15 [] (fun d ix => d :: ix) (fn := Tryz.f44) (by kernel_rfl) (by rfl) (by rfl) (by rfl) (by simp) (by decide) ?_
 repeat' first
  | with_reducible refine stp ?_
  | (with_reducible refine stpK ?_; intro K hK)
  | (with_reducible refine stpC ?_; intro T E hT hE)
  | (with_reducible refine stp2 ?_ ?_ <;> intro h)
  | with_reducible first | refine a0p rfl ?_ | refine a1r rfl (by decide) (by first | exact a0r | exact a0q (by simp [upd, noH, ext, a5z, a4o, *])) ?_ | refine a1s (by decide) (by kernel_rfl) ?_ | refine a0x (by decide) ?_
  | (with_reducible refine Kont.go hK ?_; clear hK K)
  | ((with_reducible first | refine KT.go hT ?_ | refine KT.go hE ?_); clear hT hE T E)
  | simp [*, -List.all_flatten, -List.all_eq_true, b2a, Fs.init, Fs.get, Fs.put, Fs.clean, lk, upd, ext, noH, cv1, cv, rv, FV.isU, FV.cellV, FV.cellsL, FV.storable, b5q, b7y, b7x, fLen, fBin, fUn, c5b, b8m, b7w, a9l, b4b, pv, pv1, pv2, wv, b5f, wBox, b5d, a8q, b5e, b3l, b0g, wApp, srcA, a7x, upds, List.foldl_cons, List.foldl_nil, b4c, fNil, fUn2, c5c, fCmp, c3f, eqK, a4z, eqV, FV.kd, c5d, nilV, putD, b4y, a2q, a2z, b2p, a5v, b8n, resV, resL, a3b, StK, b5v, b3k, e1q, e1r, c8z, c9a, c3b, HG_t, HG_f, e1o, e1p, nl, nls, nlss, frz, frzs, frzR, asR, asRs, Fend, c8v, b6h, b3z, frzN, nf, nfs, a5z, a4o, a9p]
 all_goals (simp_all)
end Go.Ge
namespace Go.Ge
open Go Go.FM Go.Gv Go.Proofs
set_option maxRecDepth 100000
set_option maxHeartbeats 40000000
@[simp] theorem b2n : Program.eqGuardType Tryz.prog (Program.depth Tryz.prog) 40 = Bool.false := by kernel_rfl
@[simp] theorem b2s : Program.eqGuardType Tryz.prog (Program.depth Tryz.prog) 4 = Bool.false := by kernel_rfl
@[simp] theorem b2r : Program.eqGuardType Tryz.prog (Program.depth Tryz.prog) 5 = Bool.false := by kernel_rfl
@[simp] theorem b2q : Program.eqGuardType Tryz.prog (Program.depth Tryz.prog) 9 = Bool.false := by kernel_rfl
@[simp] theorem f5w : arE Tryz.prog 114 = Option.none := by kernel_rfl
@[simp] theorem b7v : arE Tryz.prog 117 = (Option.some (3, 3)) := by kernel_rfl
@[simp] theorem f5v : arE Tryz.prog 135 = (Option.some (53, 114)) := by kernel_rfl
@[simp] theorem g0q : arE Tryz.prog 26 = Option.none := by kernel_rfl
@[simp] theorem g0o : arE Tryz.prog 40 = Option.none := by kernel_rfl
@[simp] theorem g0i : arE Tryz.prog 84 = Option.none := by kernel_rfl
@[simp] theorem g3k : arE Tryz.prog 9 = Option.none := by kernel_rfl
@[simp] theorem f5u : arT Tryz.prog 135 = (Option.some (53, 2)) := by kernel_rfl
@[simp] theorem g0h : arT Tryz.prog 22 = Option.none := by kernel_rfl
@[simp] theorem g0g : arT Tryz.prog 23 = Option.none := by kernel_rfl
@[simp] theorem g0f : arT Tryz.prog 24 = Option.none := by kernel_rfl
@[simp] theorem g0b : arT Tryz.prog 46 = Option.none := by kernel_rfl
@[simp] theorem g0c : arT Tryz.prog 42 = Option.none := by kernel_rfl
@[simp] theorem e9m : c1r Tryz.prog 40 = Bool.false := by kernel_rfl
@[simp] theorem f5s : c1r Tryz.prog 4 = Bool.true := by kernel_rfl
@[simp] theorem f5r : c1r Tryz.prog 5 = Bool.false := by kernel_rfl
@[simp] theorem f5q : c1r Tryz.prog 9 = Bool.false := by kernel_rfl
@[simp] theorem g3j : byT Tryz.prog 3 = (Option.some 8) := by kernel_rfl
@[simp] theorem f9v : byT Tryz.prog 48 = (Option.some 56) := by kernel_rfl
@[simp] theorem f9s : byT Tryz.prog 72 = (Option.some 40) := by kernel_rfl
@[simp] theorem f9w : byT Tryz.prog 42 = (Option.some 24) := by kernel_rfl
@[simp] theorem f9r : byT Tryz.prog 77 = (Option.some 24) := by kernel_rfl
@[simp] theorem g3i : byT Tryz.prog 9 = (Option.some 16) := by kernel_rfl
@[simp] theorem e3k : fldT Tryz.prog 114 1 = (Option.some 1) := by kernel_rfl
@[simp] theorem e7w : fldT Tryz.prog 26 0 = (Option.some 0) := by kernel_rfl
@[simp] theorem e7v : fldT Tryz.prog 26 1 = (Option.some 1) := by kernel_rfl
@[simp] theorem e7u : fldT Tryz.prog 26 2 = (Option.some 2) := by kernel_rfl
@[simp] theorem e7t : fldT Tryz.prog 26 3 = (Option.some 3) := by kernel_rfl
@[simp] theorem e7n : fldT Tryz.prog 48 0 = (Option.some 0) := by kernel_rfl
@[simp] theorem e7m : fldT Tryz.prog 48 1 = (Option.some 1) := by kernel_rfl
@[simp] theorem e7l : fldT Tryz.prog 48 2 = (Option.some 2) := by kernel_rfl
@[simp] theorem e7k : fldT Tryz.prog 48 3 = (Option.some 3) := by kernel_rfl
@[simp] theorem e7e : fldT Tryz.prog 72 0 = (Option.some 0) := by kernel_rfl
@[simp] theorem e7d : fldT Tryz.prog 72 1 = (Option.some 1) := by kernel_rfl
@[simp] theorem e7c : fldT Tryz.prog 72 2 = (Option.some 2) := by kernel_rfl
@[simp] theorem e7b : fldT Tryz.prog 72 3 = (Option.some 3) := by kernel_rfl
@[simp] theorem e7a : fldT Tryz.prog 72 4 = (Option.some 4) := by kernel_rfl
@[simp] theorem e6z : fldT Tryz.prog 77 0 = (Option.some 0) := by kernel_rfl
@[simp] theorem e6y : fldT Tryz.prog 77 1 = (Option.some 1) := by kernel_rfl
@[simp] theorem e6x : fldT Tryz.prog 84 0 = (Option.some 0) := by kernel_rfl
@[simp] theorem e6w : fldT Tryz.prog 84 1 = (Option.some 4) := by kernel_rfl
@[simp] theorem f5o : fnOk Tryz.prog 11 = Bool.true := by kernel_rfl
@[simp] theorem f3c : fnOk Tryz.prog 83 = Bool.true := by kernel_rfl
@[simp] theorem f3g : fnOk Tryz.prog 79 = Bool.true := by kernel_rfl
@[simp] theorem f3f : fnOk Tryz.prog 80 = Bool.true := by kernel_rfl
@[simp] theorem f2z : fnOk Tryz.prog 99 = Bool.true := by kernel_rfl
@[simp] theorem f5c : fnOk Tryz.prog 23 = Bool.true := by kernel_rfl
@[simp] theorem f5f : fnOk Tryz.prog 20 = Bool.true := by kernel_rfl
@[simp] theorem f4k : fnOk Tryz.prog 44 = Bool.true := by kernel_rfl
@[simp] theorem f4j : fnOk Tryz.prog 45 = Bool.true := by kernel_rfl
@[simp] theorem f4i : fnOk Tryz.prog 46 = Bool.true := by kernel_rfl
@[simp] theorem f4h : fnOk Tryz.prog 47 = Bool.true := by kernel_rfl
@[simp] theorem f4g : fnOk Tryz.prog 48 = Bool.true := by kernel_rfl
@[simp] theorem f4f : fnOk Tryz.prog 49 = Bool.true := by kernel_rfl
@[simp] theorem f4n : fnOk Tryz.prog 41 = Bool.true := by kernel_rfl
@[simp] theorem f4m : fnOk Tryz.prog 42 = Bool.true := by kernel_rfl
@[simp] theorem f3u : fnOk Tryz.prog 61 = Bool.true := by kernel_rfl
@[simp] theorem f3t : fnOk Tryz.prog 62 = Bool.true := by kernel_rfl
@[simp] theorem f3s : fnOk Tryz.prog 63 = Bool.true := by kernel_rfl
@[simp] theorem f3r : fnOk Tryz.prog 64 = Bool.true := by kernel_rfl
@[simp] theorem f3q : fnOk Tryz.prog 65 = Bool.true := by kernel_rfl
@[simp] theorem f3p : fnOk Tryz.prog 66 = Bool.true := by kernel_rfl
@[simp] theorem f3w : fnOk Tryz.prog 59 = Bool.true := by kernel_rfl
@[simp] theorem f3d : fnOk Tryz.prog 82 = Bool.true := by kernel_rfl
@[simp] theorem f2y : intT Tryz.prog 40 = Option.none := by kernel_rfl
@[simp] theorem f9m : intT Tryz.prog 4 = Option.none := by kernel_rfl
@[simp] theorem f9l : intT Tryz.prog 5 = (Option.some Go.IntKind.u8) := by kernel_rfl
@[simp] theorem f9k : intT Tryz.prog 9 = Option.none := by kernel_rfl
@[simp] theorem g3h : kdT Tryz.prog 4 = (Option.some Go.FM.Kd.bool) := by kernel_rfl
@[simp] theorem g3g : kdT Tryz.prog 5 = (Option.some (Go.FM.Kd.int Go.IntKind.u8)) := by kernel_rfl
@[simp] theorem g3f : kdT Tryz.prog 9 = (Option.some Go.FM.Kd.str) := by kernel_rfl
@[simp] theorem f2w : ldT Tryz.prog 114 = (Option.some (Option.some 2)) := by kernel_rfl
@[simp] theorem f2v : ldT Tryz.prog 135 = (Option.some (Option.some 106)) := by kernel_rfl
@[simp] theorem f9i : ldT Tryz.prog 22 = (Option.some Option.none) := by kernel_rfl
@[simp] theorem f9h : ldT Tryz.prog 23 = (Option.some Option.none) := by kernel_rfl
@[simp] theorem f9g : ldT Tryz.prog 24 = (Option.some Option.none) := by kernel_rfl
@[simp] theorem f9f : ldT Tryz.prog 26 = (Option.some (Option.some 4)) := by kernel_rfl
@[simp] theorem f9b : ldT Tryz.prog 40 = (Option.some (Option.some 2)) := by kernel_rfl
@[simp] theorem f8z : ldT Tryz.prog 46 = (Option.some Option.none) := by kernel_rfl
@[simp] theorem f8y : ldT Tryz.prog 48 = (Option.some (Option.some 4)) := by kernel_rfl
@[simp] theorem f8q : ldT Tryz.prog 72 = (Option.some (Option.some 5)) := by kernel_rfl
@[simp] theorem f9a : ldT Tryz.prog 42 = (Option.some Option.none) := by kernel_rfl
@[simp] theorem f8p : ldT Tryz.prog 77 = (Option.some (Option.some 2)) := by kernel_rfl
@[simp] theorem f8o : ldT Tryz.prog 84 = (Option.some (Option.some 8)) := by kernel_rfl
@[simp] theorem g3d : ldT Tryz.prog 9 = (Option.some Option.none) := by kernel_rfl
@[simp] theorem f2u : nilT Tryz.prog 40 = Option.none := by kernel_rfl
@[simp] theorem f8m : nilT Tryz.prog 4 = Option.none := by kernel_rfl
@[simp] theorem f8l : nilT Tryz.prog 5 = Option.none := by kernel_rfl
@[simp] theorem f8k : nilT Tryz.prog 9 = Option.none := by kernel_rfl
@[simp] theorem e0l : a7e Tryz.prog 114 = (Option.some ((0, 1) :: ((1, 1) :: []))) := by kernel_rfl
@[simp] theorem e0k : a7e Tryz.prog 117 = Option.none := by kernel_rfl
@[simp] theorem e0j : a7e Tryz.prog 135 = Option.none := by kernel_rfl
@[simp] theorem e3j : a7e Tryz.prog 26 = (Option.some ((0, 1) :: ((1, 1) :: ((2, 1) :: ((3, 1) :: []))))) := by kernel_rfl
@[simp] theorem e3b : a7e Tryz.prog 84 = (Option.some ((0, 4) :: ((4, 4) :: []))) := by kernel_rfl
@[simp] theorem f2s : slT Tryz.prog 135 = Option.none := by kernel_rfl
@[simp] theorem f8j : slT Tryz.prog 22 = (Option.some (48, 4)) := by kernel_rfl
@[simp] theorem f8i : slT Tryz.prog 23 = (Option.some (77, 2)) := by kernel_rfl
@[simp] theorem f8h : slT Tryz.prog 24 = (Option.some (42, 1)) := by kernel_rfl
@[simp] theorem g3c : slT Tryz.prog 3 = Option.none := by kernel_rfl
@[simp] theorem f8d : slT Tryz.prog 46 = (Option.some (72, 5)) := by kernel_rfl
@[simp] theorem f8e : slT Tryz.prog 42 = (Option.some (3, 1)) := by kernel_rfl
@[simp] theorem f7y : slT Tryz.prog 82 = (Option.some (9, 1)) := by kernel_rfl
@[simp] theorem g3a : stT Tryz.prog 4 = Option.none := by kernel_rfl
@[simp] theorem g2z : stT Tryz.prog 5 = Option.none := by kernel_rfl
@[simp] theorem g2y : stT Tryz.prog 9 = Option.none := by kernel_rfl
@[simp] theorem e9k : strT Tryz.prog 117 = Bool.false := by kernel_rfl
@[simp] theorem f2r : strT Tryz.prog 22 = Bool.false := by kernel_rfl
@[simp] theorem f2q : strT Tryz.prog 23 = Bool.false := by kernel_rfl
@[simp] theorem f2p : strT Tryz.prog 24 = Bool.false := by kernel_rfl
@[simp] theorem f7w : strT Tryz.prog 3 = Bool.false := by kernel_rfl
@[simp] theorem f2l : strT Tryz.prog 46 = Bool.false := by kernel_rfl
@[simp] theorem f2m : strT Tryz.prog 42 = Bool.false := by kernel_rfl
@[simp] theorem f2g : strT Tryz.prog 82 = Bool.false := by kernel_rfl
@[simp] theorem e0i : strT Tryz.prog 9 = Bool.true := by kernel_rfl
@[simp] theorem f2f : szT Tryz.prog 114 = (Option.some 2) := by kernel_rfl
@[simp] theorem f2e : szT Tryz.prog 135 = (Option.some 106) := by kernel_rfl
@[simp] theorem f7v : szT Tryz.prog 22 = (Option.some 1) := by kernel_rfl
@[simp] theorem f7u : szT Tryz.prog 24 = (Option.some 1) := by kernel_rfl
@[simp] theorem f7t : szT Tryz.prog 26 = (Option.some 4) := by kernel_rfl
@[simp] theorem c4v : szT Tryz.prog 3 = (Option.some 1) := by kernel_rfl
@[simp] theorem f7o : szT Tryz.prog 46 = (Option.some 1) := by kernel_rfl
@[simp] theorem f7n : szT Tryz.prog 48 = (Option.some 4) := by kernel_rfl
@[simp] theorem f7f : szT Tryz.prog 72 = (Option.some 5) := by kernel_rfl
@[simp] theorem f7e : szT Tryz.prog 77 = (Option.some 2) := by kernel_rfl
@[simp] theorem f7d : szT Tryz.prog 84 = (Option.some 8) := by kernel_rfl
@[simp] theorem e6v : a6m Tryz.prog 114 = (Option.some ((Go.FM.FV.str (ByteArray.mk (Array.mk []))) :: ((Go.FM.FV.str (ByteArray.mk (Array.mk []))) :: []))) := by kernel_rfl
@[simp] theorem e6u : a6m Tryz.prog 117 = (Option.some ((Go.FM.FV.int Go.IntKind.i64 0) :: ((Go.FM.FV.int Go.IntKind.i64 0) :: ((Go.FM.FV.int Go.IntKind.i64 0) :: [])))) := by kernel_rfl
@[simp] theorem e6t : a6m Tryz.prog 135 = (Option.some ((Go.FM.FV.str (ByteArray.mk (Array.mk []))) :: ((Go.FM.FV.str (ByteArray.mk (Array.mk []))) :: ((Go.FM.FV.str (ByteArray.mk (Array.mk []))) :: ((Go.FM.FV.str (ByteArray.mk (Array.mk []))) :: ((Go.FM.FV.str (ByteArray.mk (Array.mk []))) :: ((Go.FM.FV.str (ByteArray.mk (Array.mk []))) :: ((Go.FM.FV.str (ByteArray.mk (Array.mk []))) :: ((Go.FM.FV.str (ByteArray.mk (Array.mk []))) :: ((Go.FM.FV.str (ByteArray.mk (Array.mk []))) :: ((Go.FM.FV.str (ByteArray.mk (Array.mk []))) :: ((Go.FM.FV.str (ByteArray.mk (Array.mk []))) :: ((Go.FM.FV.str (ByteArray.mk (Array.mk []))) :: ((Go.FM.FV.str (ByteArray.mk (Array.mk []))) :: ((Go.FM.FV.str (ByteArray.mk (Array.mk []))) :: ((Go.FM.FV.str (ByteArray.mk (Array.mk []))) :: ((Go.FM.FV.str (ByteArray.mk (Array.mk []))) :: ((Go.FM.FV.str (ByteArray.mk (Array.mk []))) :: ((Go.FM.FV.str (ByteArray.mk (Array.mk []))) :: ((Go.FM.FV.str (ByteArray.mk (Array.mk []))) :: ((Go.FM.FV.str (ByteArray.mk (Array.mk []))) :: ((Go.FM.FV.str (ByteArray.mk (Array.mk []))) :: ((Go.FM.FV.str (ByteArray.mk (Array.mk []))) :: ((Go.FM.FV.str (ByteArray.mk (Array.mk []))) :: ((Go.FM.FV.str (ByteArray.mk (Array.mk []))) :: ((Go.FM.FV.str (ByteArray.mk (Array.mk []))) :: ((Go.FM.FV.str (ByteArray.mk (Array.mk []))) :: ((Go.FM.FV.str (ByteArray.mk (Array.mk []))) :: ((Go.FM.FV.str (ByteArray.mk (Array.mk []))) :: ((Go.FM.FV.str (ByteArray.mk (Array.mk []))) :: ((Go.FM.FV.str (ByteArray.mk (Array.mk []))) :: ((Go.FM.FV.str (ByteArray.mk (Array.mk []))) :: ((Go.FM.FV.str (ByteArray.mk (Array.mk []))) :: ((Go.FM.FV.str (ByteArray.mk (Array.mk []))) :: ((Go.FM.FV.str (ByteArray.mk (Array.mk []))) :: ((Go.FM.FV.str (ByteArray.mk (Array.mk []))) :: ((Go.FM.FV.str (ByteArray.mk (Array.mk []))) :: ((Go.FM.FV.str (ByteArray.mk (Array.mk []))) :: ((Go.FM.FV.str (ByteArray.mk (Array.mk []))) :: ((Go.FM.FV.str (ByteArray.mk (Array.mk []))) :: ((Go.FM.FV.str (ByteArray.mk (Array.mk []))) :: ((Go.FM.FV.str (ByteArray.mk (Array.mk []))) :: ((Go.FM.FV.str (ByteArray.mk (Array.mk []))) :: ((Go.FM.FV.str (ByteArray.mk (Array.mk []))) :: ((Go.FM.FV.str (ByteArray.mk (Array.mk []))) :: ((Go.FM.FV.str (ByteArray.mk (Array.mk []))) :: ((Go.FM.FV.str (ByteArray.mk (Array.mk []))) :: ((Go.FM.FV.str (ByteArray.mk (Array.mk []))) :: ((Go.FM.FV.str (ByteArray.mk (Array.mk []))) :: ((Go.FM.FV.str (ByteArray.mk (Array.mk []))) :: ((Go.FM.FV.str (ByteArray.mk (Array.mk []))) :: ((Go.FM.FV.str (ByteArray.mk (Array.mk []))) :: ((Go.FM.FV.str (ByteArray.mk (Array.mk []))) :: ((Go.FM.FV.str (ByteArray.mk (Array.mk []))) :: ((Go.FM.FV.str (ByteArray.mk (Array.mk []))) :: ((Go.FM.FV.str (ByteArray.mk (Array.mk []))) :: ((Go.FM.FV.str (ByteArray.mk (Array.mk []))) :: ((Go.FM.FV.str (ByteArray.mk (Array.mk []))) :: ((Go.FM.FV.str (ByteArray.mk (Array.mk []))) :: ((Go.FM.FV.str (ByteArray.mk (Array.mk []))) :: ((Go.FM.FV.str (ByteArray.mk (Array.mk []))) :: ((Go.FM.FV.str (ByteArray.mk (Array.mk []))) :: ((Go.FM.FV.str (ByteArray.mk (Array.mk []))) :: ((Go.FM.FV.str (ByteArray.mk (Array.mk []))) :: ((Go.FM.FV.str (ByteArray.mk (Array.mk []))) :: ((Go.FM.FV.str (ByteArray.mk (Array.mk []))) :: ((Go.FM.FV.str (ByteArray.mk (Array.mk []))) :: ((Go.FM.FV.str (ByteArray.mk (Array.mk []))) :: ((Go.FM.FV.str (ByteArray.mk (Array.mk []))) :: ((Go.FM.FV.str (ByteArray.mk (Array.mk []))) :: ((Go.FM.FV.str (ByteArray.mk (Array.mk []))) :: ((Go.FM.FV.str (ByteArray.mk (Array.mk []))) :: ((Go.FM.FV.str (ByteArray.mk (Array.mk []))) :: ((Go.FM.FV.str (ByteArray.mk (Array.mk []))) :: ((Go.FM.FV.str (ByteArray.mk (Array.mk []))) :: ((Go.FM.FV.str (ByteArray.mk (Array.mk []))) :: ((Go.FM.FV.str (ByteArray.mk (Array.mk []))) :: ((Go.FM.FV.str (ByteArray.mk (Array.mk []))) :: ((Go.FM.FV.str (ByteArray.mk (Array.mk []))) :: ((Go.FM.FV.str (ByteArray.mk (Array.mk []))) :: ((Go.FM.FV.str (ByteArray.mk (Array.mk []))) :: ((Go.FM.FV.str (ByteArray.mk (Array.mk []))) :: ((Go.FM.FV.str (ByteArray.mk (Array.mk []))) :: ((Go.FM.FV.str (ByteArray.mk (Array.mk []))) :: ((Go.FM.FV.str (ByteArray.mk (Array.mk []))) :: ((Go.FM.FV.str (ByteArray.mk (Array.mk []))) :: ((Go.FM.FV.str (ByteArray.mk (Array.mk []))) :: ((Go.FM.FV.str (ByteArray.mk (Array.mk []))) :: ((Go.FM.FV.str (ByteArray.mk (Array.mk []))) :: ((Go.FM.FV.str (ByteArray.mk (Array.mk []))) :: ((Go.FM.FV.str (ByteArray.mk (Array.mk []))) :: ((Go.FM.FV.str (ByteArray.mk (Array.mk []))) :: ((Go.FM.FV.str (ByteArray.mk (Array.mk []))) :: ((Go.FM.FV.str (ByteArray.mk (Array.mk []))) :: ((Go.FM.FV.str (ByteArray.mk (Array.mk []))) :: ((Go.FM.FV.str (ByteArray.mk (Array.mk []))) :: ((Go.FM.FV.str (ByteArray.mk (Array.mk []))) :: ((Go.FM.FV.str (ByteArray.mk (Array.mk []))) :: ((Go.FM.FV.str (ByteArray.mk (Array.mk []))) :: ((Go.FM.FV.str (ByteArray.mk (Array.mk []))) :: ((Go.FM.FV.str (ByteArray.mk (Array.mk []))) :: ((Go.FM.FV.str (ByteArray.mk (Array.mk []))) :: ((Go.FM.FV.str (ByteArray.mk (Array.mk []))) :: ((Go.FM.FV.str (ByteArray.mk (Array.mk []))) :: ((Go.FM.FV.str (ByteArray.mk (Array.mk []))) :: ((Go.FM.FV.str (ByteArray.mk (Array.mk []))) :: ((Go.FM.FV.str (ByteArray.mk (Array.mk []))) :: []))))))))))))))))))))))))))))))))))))))))))))))))))))))))))))))))))))))))))))))))))))))))))))))))))))))))))) := by kernel_rfl
@[simp] theorem e9i : a6m Tryz.prog 26 = (Option.some (Go.FM.FV.nils :: (Go.FM.FV.nils :: (Go.FM.FV.nils :: ((Go.FM.FV.int Go.IntKind.i64 0) :: []))))) := by kernel_rfl
@[simp] theorem f2d : a6m Tryz.prog 3 = (Option.some ((Go.FM.FV.int Go.IntKind.i64 0) :: [])) := by kernel_rfl
@[simp] theorem e9e : a6m Tryz.prog 48 = (Option.some ((Go.FM.FV.str (ByteArray.mk (Array.mk []))) :: ((Go.FM.FV.int Go.IntKind.i64 0) :: ((Go.FM.FV.int Go.IntKind.i64 0) :: (Go.FM.FV.nils :: []))))) := by kernel_rfl
@[simp] theorem e8z : a6m Tryz.prog 72 = (Option.some ((Go.FM.FV.int Go.IntKind.i64 0) :: ((Go.FM.FV.int Go.IntKind.i64 0) :: ((Go.FM.FV.int Go.IntKind.i64 0) :: ((Go.FM.FV.int Go.IntKind.i64 0) :: ((Go.FM.FV.int Go.IntKind.i64 0) :: [])))))) := by kernel_rfl
@[simp] theorem e9f : a6m Tryz.prog 42 = (Option.some (Go.FM.FV.nils :: [])) := by kernel_rfl
@[simp] theorem e8y : a6m Tryz.prog 77 = (Option.some ((Go.FM.FV.str (ByteArray.mk (Array.mk []))) :: ((Go.FM.FV.int Go.IntKind.i64 0) :: []))) := by kernel_rfl
@[simp] theorem e8x : a6m Tryz.prog 84 = (Option.some (Go.FM.FV.nils :: (Go.FM.FV.nils :: (Go.FM.FV.nils :: ((Go.FM.FV.int Go.IntKind.i64 0) :: ((Go.FM.FV.str (ByteArray.mk (Array.mk []))) :: ((Go.FM.FV.int Go.IntKind.i64 0) :: ((Go.FM.FV.int Go.IntKind.i64 0) :: (Go.FM.FV.nils :: []))))))))) := by kernel_rfl
@[simp] theorem f2b : a6m Tryz.prog 9 = (Option.some ((Go.FM.FV.str (ByteArray.mk (Array.mk []))) :: [])) := by kernel_rfl
def a2p (n : Int) : List FV := [.int .i64 n]
def ints (L : List (Int)) : List (List FV) := L.map a2p
theorem a0e (L : List (Int)) : (ints L).length = L.length := by simp [ints]
theorem a5m {L : List (Int)} {i : Nat} (h : i < (ints L).length) : (ints L)[i] = a2p (L[i]'(by rwa [a0e] at h)) := by simp [ints]
theorem a0l (a b : List (Int)) : ints (a ++ b) = ints a ++ ints b := by simp [ints]
theorem a1a (a : Int) : ints [a] = [a2p a] := rfl
theorem a0w : ints [] = [] := rfl
theorem a2t (n : Nat) (l : List (Int)) : (ints l).take n = ints (l.take n) := by simp [ints, List.map_take]
theorem a0b (L : List (Int)) : nlss (ints L) = true := by
 induction L with
 | nil => rfl
 | cons r rs ih => simpa [ints, nlss, nls, nl, a2p] using ih
theorem a3e (L : List (Int)) : (ints L).flatten.all FV.cellV = true := by
 induction L with
 | nil => rfl
 | cons r rs ih => simp [ints, FV.cellV, a2p]
def _root_.Go.Gv.Ins.row (e : Ins) : List FV := [.int .i64 e.op, .int .i64 e.a, .int .i64 e.b, .int .i64 e.c, .int .i64 e.d]
def inss (L : List (Ins)) : List (List FV) := L.map Ins.row
theorem a0g (L : List (Ins)) : (inss L).length = L.length := by simp [inss]
theorem a2x {L : List (Ins)} {i : Nat} (h : i < (inss L).length) : (inss L)[i] = Ins.row (L[i]'(by rwa [a0g] at h)) := by simp [inss]
theorem a0n (a b : List (Ins)) : inss (a ++ b) = inss a ++ inss b := by simp [inss]
theorem a1e (a : Ins) : inss [a] = [Ins.row a] := rfl
theorem a1f : inss [] = [] := rfl
theorem d3y (n : Nat) (l : List (Ins)) : (inss l).take n = inss (l.take n) := by simp [inss, List.map_take]
theorem a0c (L : List (Ins)) : nlss (inss L) = true := by
 induction L with
 | nil => rfl
 | cons r rs ih => simpa [inss, nlss, nls, nl, Ins.row] using ih
theorem d5x (L : List (Ins)) : (inss L).flatten.all FV.cellV = true := by
 induction L with
 | nil => rfl
 | cons r rs ih => simp [inss, FV.cellV, Ins.row]
def _root_.Go.Gv.FnD.row (e : FnD) : List FV := [.str e.name, .int .i64 e.params, .int .i64 e.regs, .list 5 (inss e.code)]
def fns (L : List (FnD)) : List (List FV) := L.map FnD.row
theorem a0j (L : List (FnD)) : (fns L).length = L.length := by simp [fns]
theorem a3m {L : List (FnD)} {i : Nat} (h : i < (fns L).length) : (fns L)[i] = FnD.row (L[i]'(by rwa [a0j] at h)) := by simp [fns]
theorem a0s (a b : List (FnD)) : fns (a ++ b) = fns a ++ fns b := by simp [fns]
theorem a1m (a : FnD) : fns [a] = [FnD.row a] := rfl
theorem a1n : fns [] = [] := rfl
theorem c7w (n : Nat) (l : List (FnD)) : (fns l).take n = fns (l.take n) := by simp [fns, List.map_take]
theorem a0f (L : List (FnD)) : nlss (fns L) = true := by
 induction L with
 | nil => rfl
 | cons r rs ih => simpa [fns, nlss, nls, nl, FnD.row, a0c] using ih
theorem e0z (L : List (FnD)) : (fns L).flatten.all FV.cellV = true := by
 induction L with
 | nil => rfl
 | cons r rs ih => simp [fns, FV.cellV, FnD.row]
def _root_.Go.Gv.Gb.row (e : Gb) : List FV := [.str e.name, .int .i64 e.kind]
def gbs (L : List (Gb)) : List (List FV) := L.map Gb.row
theorem a0o (L : List (Gb)) : (gbs L).length = L.length := by simp [gbs]
theorem a9j {L : List (Gb)} {i : Nat} (h : i < (gbs L).length) : (gbs L)[i] = Gb.row (L[i]'(by rwa [a0o] at h)) := by simp [gbs]
theorem a0t (a b : List (Gb)) : gbs (a ++ b) = gbs a ++ gbs b := by simp [gbs]
theorem a1k (a : Gb) : gbs [a] = [Gb.row a] := rfl
theorem a1l : gbs [] = [] := rfl
theorem c7o (n : Nat) (l : List (Gb)) : (gbs l).take n = gbs (l.take n) := by simp [gbs, List.map_take]
theorem a0h (L : List (Gb)) : nlss (gbs L) = true := by
 induction L with
 | nil => rfl
 | cons r rs ih => simpa [gbs, nlss, nls, nl, Gb.row] using ih
theorem e0y (L : List (Gb)) : (gbs L).flatten.all FV.cellV = true := by
 induction L with
 | nil => rfl
 | cons r rs ih => simp [gbs, FV.cellV, Gb.row]
def a2j (l : List Int) : List FV := [.list 1 (ints l)]
def lays (L : List (List Int)) : List (List FV) := L.map a2j
theorem a0d (L : List (List Int)) : (lays L).length = L.length := by simp [lays]
theorem a3a {L : List (List Int)} {i : Nat} (h : i < (lays L).length) : (lays L)[i] = a2j (L[i]'(by rwa [a0d] at h)) := by simp [lays]
theorem a0k (a b : List (List Int)) : lays (a ++ b) = lays a ++ lays b := by simp [lays]
theorem a1d (a : List Int) : lays [a] = [a2j a] := rfl
theorem a1b : lays [] = [] := rfl
theorem a4g (n : Nat) (l : List (List Int)) : (lays l).take n = lays (l.take n) := by simp [lays, List.map_take]
theorem a0a (L : List (List Int)) : nlss (lays L) = true := by
 induction L with
 | nil => rfl
 | cons r rs ih => simpa [lays, nlss, nls, nl, a2j, a0b] using ih
theorem a5g (L : List (List Int)) : (lays L).flatten.all FV.cellV = true := by
 induction L with
 | nil => rfl
 | cons r rs ih => simp [lays, FV.cellV, a2j]
def _root_.Go.Gv.Pg.row (p : Pg) : List FV := [.list 4 (fns p.funcs), .list 2 (gbs p.globals), .list 1 (lays p.layouts), .int .i64 p.main]
theorem wl (n : Nat) (h : n <= 1000000000) : IntKind.wrap .i64 ((n : Int) - 1) = (n : Int) - 1 := by rw [IntKind.wrap_i64]; omega
theorem wli {i : Nat} {m : Nat} (h : i < m) (hm : m <= 1000000000) : IntKind.wrap .i64 ((i : Int) + 1) = ((i + 1 : Nat) : Int) := by rw [IntKind.wrap_i64]; omega
def wdI : Int -> ByteArray
 | 1 => ⟨⟨[99, 111, 110, 115, 116]⟩⟩
 | 2 => ⟨⟨[110, 105, 108]⟩⟩
 | 3 => ⟨⟨[109, 111, 118, 101]⟩⟩
 | 4 => ⟨⟨[97, 100, 100]⟩⟩
 | 5 => ⟨⟨[115, 117, 98]⟩⟩
 | 6 => ⟨⟨[109, 117, 108]⟩⟩
 | 7 => ⟨⟨[100, 105, 118]⟩⟩
 | 8 => ⟨⟨[114, 101, 109]⟩⟩
 | 9 => ⟨⟨[110, 101, 103]⟩⟩
 | 10 => ⟨⟨[110, 111, 116]⟩⟩
 | 11 => ⟨⟨[101, 113]⟩⟩
 | 12 => ⟨⟨[110, 101]⟩⟩
 | 13 => ⟨⟨[108, 116]⟩⟩
 | 14 => ⟨⟨[108, 101]⟩⟩
 | 15 => ⟨⟨[108, 101, 110]⟩⟩
 | 16 => ⟨⟨[106, 117, 109, 112]⟩⟩
 | 17 => ⟨⟨[106, 117, 109, 112, 122]⟩⟩
 | 18 => ⟨⟨[103, 108, 111, 98, 97, 108]⟩⟩
 | 19 => ⟨⟨[102, 105, 101, 108, 100]⟩⟩
 | 20 => ⟨⟨[105, 110, 100, 101, 120]⟩⟩
 | 21 => ⟨⟨[110, 101, 119]⟩⟩
 | 22 => ⟨⟨[115, 108, 105, 99, 101]⟩⟩
 | 23 => ⟨⟨[99, 104, 97, 110]⟩⟩
 | 24 => ⟨⟨[99, 108, 111, 115, 117, 114, 101]⟩⟩
 | 25 => ⟨⟨[99, 97, 112]⟩⟩
 | 26 => ⟨⟨[99, 97, 108, 108]⟩⟩
 | 27 => ⟨⟨[99, 97, 108, 108, 99]⟩⟩
 | 28 => ⟨⟨[100, 101, 102, 101, 114]⟩⟩
 | 29 => ⟨⟨[100, 101, 102, 101, 114, 99]⟩⟩
 | 30 => ⟨⟨[114, 101, 116, 117, 114, 110]⟩⟩
 | 31 => ⟨⟨[103, 111]⟩⟩
 | 32 => ⟨⟨[103, 111, 99]⟩⟩
 | 33 => ⟨⟨[108, 111, 97, 100]⟩⟩
 | 34 => ⟨⟨[115, 116, 111, 114, 101]⟩⟩
 | 35 => ⟨⟨[97, 108, 111, 97, 100]⟩⟩
 | 36 => ⟨⟨[97, 115, 116, 111, 114, 101]⟩⟩
 | 37 => ⟨⟨[97, 97, 100, 100]⟩⟩
 | 38 => ⟨⟨[97, 99, 97, 115]⟩⟩
 | 39 => ⟨⟨[108, 111, 99, 107]⟩⟩
 | 40 => ⟨⟨[117, 110, 108, 111, 99, 107]⟩⟩
 | 41 => ⟨⟨[114, 108, 111, 99, 107]⟩⟩
 | 42 => ⟨⟨[114, 117, 110, 108, 111, 99, 107]⟩⟩
 | 43 => ⟨⟨[103, 114, 111, 117, 112]⟩⟩
 | 44 => ⟨⟨[119, 97, 105, 116]⟩⟩
 | 45 => ⟨⟨[111, 110, 99, 101]⟩⟩
 | 46 => ⟨⟨[111, 110, 99, 101, 101, 110, 100]⟩⟩
 | 47 => ⟨⟨[115, 101, 110, 100]⟩⟩
 | 48 => ⟨⟨[114, 101, 99, 118]⟩⟩
 | 49 => ⟨⟨[99, 108, 111, 115, 101]⟩⟩
 | 50 => ⟨⟨[115, 101, 108, 101, 99, 116]⟩⟩
 | 51 => ⟨⟨[99, 97, 115, 101]⟩⟩
 | 52 => ⟨⟨[112, 114, 105, 110, 116]⟩⟩
 | _ => ⟨⟨[]⟩⟩
def rlI : Int -> ByteArray
 | 1 => ⟨⟨[100, 105, 45]⟩⟩
 | 2 => ⟨⟨[100, 45, 45]⟩⟩
 | 3 => ⟨⟨[100, 115, 45]⟩⟩
 | 4 => ⟨⟨[100, 115, 115]⟩⟩
 | 5 => ⟨⟨[100, 115, 115]⟩⟩
 | 6 => ⟨⟨[100, 115, 115]⟩⟩
 | 7 => ⟨⟨[100, 115, 115]⟩⟩
 | 8 => ⟨⟨[100, 115, 115]⟩⟩
 | 9 => ⟨⟨[100, 115, 45]⟩⟩
 | 10 => ⟨⟨[100, 115, 45]⟩⟩
 | 11 => ⟨⟨[100, 115, 115]⟩⟩
 | 12 => ⟨⟨[100, 115, 115]⟩⟩
 | 13 => ⟨⟨[100, 115, 115]⟩⟩
 | 14 => ⟨⟨[100, 115, 115]⟩⟩
 | 15 => ⟨⟨[100, 115, 45]⟩⟩
 | 16 => ⟨⟨[45, 45, 116]⟩⟩
 | 17 => ⟨⟨[115, 45, 116]⟩⟩
 | 18 => ⟨⟨[100, 103, 45]⟩⟩
 | 19 => ⟨⟨[100, 115, 110]⟩⟩
 | 20 => ⟨⟨[100, 115, 115]⟩⟩
 | 21 => ⟨⟨[100, 108, 45]⟩⟩
 | 22 => ⟨⟨[100, 115, 45]⟩⟩
 | 23 => ⟨⟨[100, 115, 45]⟩⟩
 | 24 => ⟨⟨[100, 99, 107]⟩⟩
 | 25 => ⟨⟨[100, 112, 45]⟩⟩
 | 26 => ⟨⟨[68, 102, 97]⟩⟩
 | 27 => ⟨⟨[115, 45, 45]⟩⟩
 | 28 => ⟨⟨[45, 102, 97]⟩⟩
 | 29 => ⟨⟨[115, 45, 45]⟩⟩
 | 30 => ⟨⟨[83, 45, 45]⟩⟩
 | 31 => ⟨⟨[45, 102, 97]⟩⟩
 | 32 => ⟨⟨[115, 45, 45]⟩⟩
 | 33 => ⟨⟨[100, 115, 45]⟩⟩
 | 34 => ⟨⟨[115, 115, 45]⟩⟩
 | 35 => ⟨⟨[100, 115, 45]⟩⟩
 | 36 => ⟨⟨[115, 115, 45]⟩⟩
 | 37 => ⟨⟨[100, 115, 115]⟩⟩
 | 38 => ⟨⟨[100, 115, 115]⟩⟩
 | 39 => ⟨⟨[115, 45, 45]⟩⟩
 | 40 => ⟨⟨[115, 45, 45]⟩⟩
 | 41 => ⟨⟨[115, 45, 45]⟩⟩
 | 42 => ⟨⟨[115, 45, 45]⟩⟩
 | 43 => ⟨⟨[115, 115, 45]⟩⟩
 | 44 => ⟨⟨[115, 45, 45]⟩⟩
 | 45 => ⟨⟨[115, 45, 116]⟩⟩
 | 46 => ⟨⟨[115, 45, 45]⟩⟩
 | 47 => ⟨⟨[115, 115, 45]⟩⟩
 | 48 => ⟨⟨[68, 115, 68]⟩⟩
 | 49 => ⟨⟨[115, 45, 45]⟩⟩
 | 50 => ⟨⟨[100, 120, 98]⟩⟩
 | 51 => ⟨⟨[115, 98, 118]⟩⟩
 | 52 => ⟨⟨[115, 45, 45]⟩⟩
 | _ => ⟨⟨[]⟩⟩
def rlR : Int -> ByteArray
 | 1 => ⟨⟨[100, 105, 45]⟩⟩
 | 2 => ⟨⟨[100, 45, 45]⟩⟩
 | 3 => ⟨⟨[100, 114, 45]⟩⟩
 | 4 => ⟨⟨[100, 114, 114]⟩⟩
 | 5 => ⟨⟨[100, 114, 114]⟩⟩
 | 6 => ⟨⟨[100, 114, 114]⟩⟩
 | 7 => ⟨⟨[100, 114, 114]⟩⟩
 | 8 => ⟨⟨[100, 114, 114]⟩⟩
 | 9 => ⟨⟨[100, 114, 45]⟩⟩
 | 10 => ⟨⟨[100, 114, 45]⟩⟩
 | 11 => ⟨⟨[100, 114, 114]⟩⟩
 | 12 => ⟨⟨[100, 114, 114]⟩⟩
 | 13 => ⟨⟨[100, 114, 114]⟩⟩
 | 14 => ⟨⟨[100, 114, 114]⟩⟩
 | 15 => ⟨⟨[100, 114, 45]⟩⟩
 | 16 => ⟨⟨[45, 45, 106]⟩⟩
 | 17 => ⟨⟨[114, 45, 106]⟩⟩
 | 18 => ⟨⟨[100, 103, 45]⟩⟩
 | 19 => ⟨⟨[100, 114, 110]⟩⟩
 | 20 => ⟨⟨[100, 114, 114]⟩⟩
 | 21 => ⟨⟨[100, 108, 45]⟩⟩
 | 22 => ⟨⟨[100, 114, 45]⟩⟩
 | 23 => ⟨⟨[100, 114, 45]⟩⟩
 | 24 => ⟨⟨[100, 49, 110]⟩⟩
 | 25 => ⟨⟨[100, 110, 45]⟩⟩
 | 26 => ⟨⟨[68, 102, 97]⟩⟩
 | 27 => ⟨⟨[114, 45, 45]⟩⟩
 | 28 => ⟨⟨[45, 102, 97]⟩⟩
 | 29 => ⟨⟨[114, 45, 45]⟩⟩
 | 30 => ⟨⟨[82, 45, 45]⟩⟩
 | 31 => ⟨⟨[45, 102, 97]⟩⟩
 | 32 => ⟨⟨[114, 45, 45]⟩⟩
 | 33 => ⟨⟨[100, 114, 45]⟩⟩
 | 34 => ⟨⟨[114, 114, 45]⟩⟩
 | 35 => ⟨⟨[100, 114, 45]⟩⟩
 | 36 => ⟨⟨[114, 114, 45]⟩⟩
 | 37 => ⟨⟨[100, 114, 114]⟩⟩
 | 38 => ⟨⟨[100, 114, 114]⟩⟩
 | 39 => ⟨⟨[114, 45, 45]⟩⟩
 | 40 => ⟨⟨[114, 45, 45]⟩⟩
 | 41 => ⟨⟨[114, 45, 45]⟩⟩
 | 42 => ⟨⟨[114, 45, 45]⟩⟩
 | 43 => ⟨⟨[114, 114, 45]⟩⟩
 | 44 => ⟨⟨[114, 45, 45]⟩⟩
 | 45 => ⟨⟨[114, 45, 106]⟩⟩
 | 46 => ⟨⟨[114, 45, 45]⟩⟩
 | 47 => ⟨⟨[114, 114, 45]⟩⟩
 | 48 => ⟨⟨[68, 114, 68]⟩⟩
 | 49 => ⟨⟨[114, 45, 45]⟩⟩
 | 50 => ⟨⟨[100, 115, 98]⟩⟩
 | 51 => ⟨⟨[114, 98, 99]⟩⟩
 | 52 => ⟨⟨[114, 45, 45]⟩⟩
 | _ => ⟨⟨[]⟩⟩
theorem c34 (k : Int) : PC Tryz.prog Gl 47 [.int .i64 k] (.bool (a5i k)) := by
 refine b0f (res := [.tmp 2]) 3 9 [] (fun d ix => d :: ix) (fn := Tryz.f47) (by kernel_rfl) (by rfl) (by rfl) (by rfl) (by simp) (by decide) ?_
 repeat' first
  | with_reducible refine stp ?_
  | (with_reducible refine stpK ?_; intro K hK)
  | (with_reducible refine stpC ?_; intro T E hT hE)
  | (with_reducible refine stp2 ?_ ?_ <;> intro h)
  | with_reducible first | refine a0p rfl ?_ | refine a1r rfl (by decide) (by first | exact a0r | exact a0q (by simp [upd, noH, ext, a5z, a4o, *])) ?_ | refine a1s (by decide) (by kernel_rfl) ?_ | refine a0x (by decide) ?_
  | (with_reducible refine Kont.go hK ?_; clear hK K)
  | ((with_reducible first | refine KT.go hT ?_ | refine KT.go hE ?_); clear hT hE T E)
  | simp [*, -List.all_flatten, -List.all_eq_true, DEFO]
 all_goals (simp_all [a5i])
theorem c109 (p : Pg) (f : FnD) (x : Ins) (role v : Int) (hc : f.code.length <= 2000000) (hf : p.funcs.length <= 2000000) (hg : p.globals.length <= 2000000) (hl : p.layouts.length <= 2000000) : PC Tryz.prog Gl 83 [.agg [.list 4 (fns p.funcs), .list 2 (gbs p.globals), .list 1 (lays p.layouts), .int .i64 p.main, .str f.name, .int .i64 f.params, .int .i64 f.regs, .list 5 (inss f.code)], .agg [.int .i64 x.op, .int .i64 x.a, .int .i64 x.b, .int .i64 x.c, .int .i64 x.d], .int .u8 role, .int .i64 v] (.bool (opI p f x role v)) := by
 have w1 := wl f.code.length (by omega); have w2 := wl p.funcs.length (by omega); have w3 := wl p.globals.length (by omega); have w4 := wl p.layouts.length (by omega)
 refine b0f (res := [.tmp 8]) 9 181 [9] (fun d ix => d :: ix) (fn := Tryz.f83) (by kernel_rfl) (by rfl) (by rfl) (by rfl) (by simp) (by decide) ?_
 repeat' first
  | with_reducible refine stp ?_
  | (with_reducible refine stpK ?_; intro K hK)
  | (with_reducible refine stpC ?_; intro T E hT hE)
  | (with_reducible refine stp2 ?_ ?_ <;> intro h)
  | with_reducible first | refine a0u (id := 15) 31 a0m (by kernel_rfl) fun K hK => ?_ | refine a0p rfl ?_ | refine a1h (c31 _ _ _) (by simp [nls, nl, *, a0c, a0f, a0h, a0a, a0b]) ?_ | refine hpc (c31 _ _ _) (by simp [nls, nl, *, a0c, a0f, a0h, a0a, a0b]) ?_ | refine a1r rfl (by decide) (by first | exact a0r | exact a0q (by simp [upd, noH, ext, a5z, a4o, *])) ?_ | refine a1s (by decide) (by kernel_rfl) ?_ | refine a0x (by decide) ?_
  | (with_reducible refine Kont.go hK ?_; clear hK K)
  | ((with_reducible first | refine KT.go hT ?_ | refine KT.go hE ?_); clear hT hE T E)
  | simp [*, -List.all_flatten, -List.all_eq_true, DEFO, -Bool.decide_and, a0e, a0g, a0j, a0o, a0d, a0b, a0c, a0f, a0h, a0a, a5m, a2x, a3m, a9j, a3a, a2p, Ins.row, FnD.row, Gb.row, a2j, Int.le_sub_one_iff]
 all_goals first
  | (simp_all [opI, btw, opAt, a6v, Int.le_sub_one_iff]; done)
  | (subst_vars; rw [<- Bool.not_eq_true]; intro hh; simp [opI, btw, W, *] at hh <;> omega)
  | (rw [<- Bool.not_eq_true]; intro hh; simp [opI, btw, W, *] at hh <;> omega)
  | trace_state
end Go.Ge
namespace Go.Ge
open Go Go.RowKit Go.Proofs Go.Shelf Go.Sort
set_option maxHeartbeats 40000000
set_option maxRecDepth 100000
abbrev srt (ss : List (List UInt8)) : List (List UInt8) := ss.mergeSort fun x y => decide (x <= y)
def toB (l : List (List UInt8)) : List ByteArray := l.map fun x => ⟨x.toArray⟩
theorem b4i (ss : List (List UInt8)) : (srt ss).length = ss.length := List.length_mergeSort ss
theorem e1v {w : World} {g : Nat} {l : List (List UInt8)} (h : Holds encStr w g 0 l.toArray) : ∀ j, j < (toB l).length -> w.cell? ⟨g, 0 + j, none⟩ = some (.string ((toB l).getD j ByteArray.empty)) := by
 intro j hj
 have hj' : j < l.length := by simpa [toB] using hj
 rw [(h j (by simpa using hj')).1]
 have : l.toArray[j]! = l[j] := by simp [getElem!_pos, hj']
 rw [this]
 simp [toB, List.getD_eq_getElem?_getD, List.getElem?_eq_getElem hj', encStr]
theorem b5n (l : List (List UInt8)) (n : Nat) (hn : l.length = n) : Lib.containsS ((toB l).take n) ⟨#[]⟩ = decide ([] ∈ l) := by
 rw [Bool.eq_iff_iff, Lib.containsS_iff, List.take_of_length_le (by simp [toB, hn])]
 simp only [toB, List.mem_map, decide_eq_true_eq]
 constructor
 . rintro ⟨x, hx, h⟩
   have : x = [] := by simpa using congrArg (fun b : ByteArray => b.data.toList) h
   rwa [this] at hx
 . intro h; exact ⟨[], h, rfl⟩
theorem e4o {ss : List (List UInt8)} (h : [] ∈ srt ss) : Gv.uniq ss = false := by
 have := (List.mergeSort_perm ss (fun x y => decide (x <= y))).mem_iff.mp h
 simp [Gv.uniq, this]
theorem d7h {ss : List (List UInt8)} (h : ¬ [] ∈ srt ss) {n : Nat} (hn : ss.length = n) : decide (((Lib.compact (srt ss)).length : Int) = (n : Int)) = Gv.uniq ss := by
 have h' : ¬ [] ∈ ss := fun e => h ((List.mergeSort_perm ss (fun x y => decide (x <= y))).mem_iff.mpr e)
 rw [<- Gv.e4p]
 simp [h', hn, Int.ofNat_inj]
def UX (w w1 : World) (g cap n : Nat) (ss : List (List UInt8)) : Prop :=
 Go.RowKit.Below w.heap.size w w1 /\ w.heap.size <= g /\ g < w1.heap.size /\ n <= cap /\ ss.length = n /\ Holds encStr w1 g 0 ss.toArray
theorem b6n (A : Option Addr) (n c : Nat) (ss : List (List UInt8)) (w : World) (hn : n <= 4611686018427387903)
 (hclone : Calls Tryz.prog 63 #[.slice A n c] w fun e w' => ∃ v', e = .returned v' /\ w'.ownsRow w.heap.size 9 1 v' n (ss.map encStr) /\ v' ≠ .slice none 0 0 /\ Go.RowKit.Below w.heap.size w w') :
 Calls Tryz.prog 49 #[.slice A n c] w fun e w' => e = .returned (.bool (Gv.uniq ss)) /\ Go.RowKit.Below w.heap.size w w' := by
 by_cases hm : [] ∈ srt ss
 . have hu := e4o hm
   go_enter Tryz.func49, Tryz.ntmps49
   go_wp2_with (first
    | (go_at_call 63; refine hclone.mono ?_; rintro e w1 ⟨v1, rfl, hown, hnn, hbel⟩
       obtain ⟨g, cap, rfl, hbg, hgl, hncap, hcm, hlen, hH⟩ := Lib.holds_of_ownsRow hown hnn
       have hsort : Calls Tryz.prog 64 _ _ _ := Any.slices_Sort_string uL2 g 0 cap ss w1 hH hgl (by omega)
       rw [hlen] at hsort
       have X : Aside (UX w w1 g cap n ss) := ⟨hbel, hbg, hgl, hncap, hlen, hH⟩
       clear hown hbel hH hnn)
    | (go_at_call 64; refine hsort.mono ?_; rintro e w2 ⟨rfl, nn, os, rfl⟩
       have hl2 : (srt ss).length = n := by rw [b4i]; exact X.out.2.2.2.2.1
       have hH2 : Holds encStr (grow (putRow encStr (Sort.ahead w1 nn) g 0 (srt ss).toArray) os) g 0 (srt ss).toArray :=
        holds_grow encStr _ os g 0 _ (by simpa [putRow, mapBlock, Sort.ahead] using X.out.2.2.1) (holds_putRow encStr _ g 0 _ _ (holds_ahead encStr w1 nn g 0 _ X.out.2.2.2.2.2) (by simp))
       have hcont : Calls Tryz.prog 65 _ _ _ := Any.slices_Contains_string uL4 g 0 n cap (toB (srt ss)) ⟨#[]⟩ _ (by simp [toB, hl2]) (by omega) (e1v hH2)
       rw [b5n _ _ hl2, decide_eq_true hm] at hcont
       clear hH2 hsort)
    | (go_at_call 65; refine hcont.mono ?_; rintro e w3 ⟨rfl, rfl⟩))
   go_ret
   exact ⟨by rw [hu]; rfl, X.out.1.grown (grownBy_sorted _) X.out.1.size (fun j hj => by cases hj; exact X.out.2.1)⟩
 . have hu := fun (h : ss.length = n) => d7h hm h
   go_enter Tryz.func49, Tryz.ntmps49
   go_wp2_with (first
    | (go_at_call 63; refine hclone.mono ?_; rintro e w1 ⟨v1, rfl, hown, hnn, hbel⟩
       obtain ⟨g, cap, rfl, hbg, hgl, hncap, hcm, hlen, hH⟩ := Lib.holds_of_ownsRow hown hnn
       have hsort : Calls Tryz.prog 64 _ _ _ := Any.slices_Sort_string uL2 g 0 cap ss w1 hH hgl (by omega)
       rw [hlen] at hsort
       have X : Aside (UX w w1 g cap n ss) := ⟨hbel, hbg, hgl, hncap, hlen, hH⟩
       clear hown hbel hH hnn)
    | (go_at_call 64; refine hsort.mono ?_; rintro e w2 ⟨rfl, nn, os, rfl⟩
       have hl2 : (srt ss).length = n := by rw [b4i]; exact X.out.2.2.2.2.1
       have hH2 : Holds encStr (grow (putRow encStr (Sort.ahead w1 nn) g 0 (srt ss).toArray) os) g 0 (srt ss).toArray :=
        holds_grow encStr _ os g 0 _ (by simpa [putRow, mapBlock, Sort.ahead] using X.out.2.2.1) (holds_putRow encStr _ g 0 _ _ (holds_ahead encStr w1 nn g 0 _ X.out.2.2.2.2.2) (by simp))
       have hcont : Calls Tryz.prog 65 _ _ _ := Any.slices_Contains_string uL4 g 0 n cap (toB (srt ss)) ⟨#[]⟩ _ (by simp [toB, hl2]) (by omega) (e1v hH2)
       rw [b5n _ _ hl2, decide_eq_false hm] at hcont
       have hcomp : Calls Tryz.prog 66 _ _ _ := Any.slices_Compact_string uL3 g 0 cap (srt ss) _ hH2 (by omega) (by rw [hl2]; exact X.out.2.2.2.1)
       rw [hl2] at hcomp
       clear hH2 hsort)
    | (go_at_call 65; refine hcont.mono ?_; rintro e w3 ⟨rfl, rfl⟩)
    | (go_at_call 66; refine hcomp.mono ?_; rintro e w3 ⟨rfl, q, rfl⟩))
   go_ret
   exact ⟨by rw [<- hu X.out.2.2.2.2.1]; rfl, Lib.below_putRow (X.out.1.grown (grownBy_sorted _) X.out.1.size (fun j hj => by cases hj; exact X.out.2.1)) X.out.2.1⟩
theorem c9g (c : Nat) (w : World) : Calls Tryz.prog 49 #[.slice none 0 c] w fun e w' => e = .returned (.bool true) /\ w' = w := by
 have hclone : Calls Tryz.prog 63 #[.slice none 0 c] w _ := Any.slices_Clone_string_nil uL1 0 c w
 have hsort : Calls Tryz.prog 64 #[.slice none 0 0] w _ := calls_of_every_depth fun D => AnyS.slices_Sort_string_none_in uL2 D none 0 w
 have hcont : Calls Tryz.prog 65 #[.slice none 0 0, .string ⟨#[]⟩] w _ := Any.slices_Contains_string_empty uL4 none 0 ⟨#[]⟩ w
 have hcomp : Calls Tryz.prog 66 #[.slice none 0 0] w _ := Any.slices_Compact_string_empty uL3 none 0 w
 go_enter Tryz.func49, Tryz.ntmps49
 go_wp2_with (first
  | (go_at_call 63; refine hclone.mono ?_; rintro e w' ⟨rfl, rfl⟩)
  | (go_at_call 64; refine hsort.mono ?_; rintro e w' ⟨rfl, rfl⟩)
  | (go_at_call 65; refine hcont.mono ?_; rintro e w' ⟨rfl, rfl⟩)
  | (go_at_call 66; refine hcomp.mono ?_; rintro e w' ⟨rfl, rfl⟩))
 go_ret
 exact ⟨rfl, rfl⟩
end Go.Ge
namespace Go.Gv
open Go Go.FM
set_option maxRecDepth 100000
set_option maxHeartbeats 40000000
def ldd (f r c : Nat) : SL -> Bool
 | .r g a => decide (g < f \/ (g = f /\ a < r))
 | .c o => decide (o < c)
structure Ld (p : Pg) (x : Pts) (f r c : Nat) (Y : Pts) : Prop where
 shp : Shp p Y
 at' : ∀ t, getS Y t = if ldd f r c t then getS x t else []
theorem Ld.setR {p : Pg} {x Y : Pts} {f r : Nat} (h : Ld p x f r 0 Y) (ht : (SL.r f r).ok Y) (hs : okA (a0i p).length (getS x (.r f r))) : Ld p x f (r + 1) 0 (setS Y (.r f r) (getS x (.r f r))) := by
 refine ⟨h.shp.set ht hs, fun t => ?_⟩
 rw [b2l ht]
 by_cases e : SL.r f r = t
 . subst e; simp [ldd]
 . rw [if_neg e, h.at']
   cases t with
   | r g a =>
     have : ¬ (g = f /\ a = r) := fun ⟨h1, h2⟩ => e (by rw [h1, h2])
     have e1 : ldd f (r + 1) 0 (.r g a) = ldd f r 0 (.r g a) := decide_eq_decide.2 (by omega)
     rw [e1]
   | c o => rfl
theorem Ld.setC {p : Pg} {x Y : Pts} {f o : Nat} (h : Ld p x f 0 o Y) (ht : (SL.c o).ok Y) (hs : okA (a0i p).length (getS x (.c o))) : Ld p x f 0 (o + 1) (setS Y (.c o) (getS x (.c o))) := by
 refine ⟨h.shp.set ht hs, fun t => ?_⟩
 rw [b2l ht]
 by_cases e : SL.c o = t
 . subst e; simp [ldd]
 . rw [if_neg e, h.at']
   cases t with
   | r g a => rfl
   | c q =>
     have : q ≠ o := fun h1 => e (by rw [h1])
     have e1 : ldd f 0 (o + 1) (.c q) = ldd f 0 o (.c q) := decide_eq_decide.2 (by omega)
     rw [e1]
theorem d9v {x : Pts} {g a : Nat} (h : (x.regs.getD g []).length <= a) : getS x (.r g a) = [] := by
 simp only [getS, rg, Int.toNat_natCast]
 rw [List.getD_eq_getElem?_getD, List.getElem?_eq_none h]; rfl
theorem Ld.next {p : Pg} {x Y : Pts} {f r : Nat} (h : Ld p x f r 0 Y) (hr : (x.regs.getD f []).length <= r) : Ld p x (f + 1) 0 0 Y := ⟨h.shp, fun t => by
 rw [h.at']
 cases t with
 | r g a =>
   by_cases e : g = f
   . subst e
     by_cases h1 : a < r
     . simp [ldd, h1]
     . have : getS x (.r g a) = [] := d9v (by omega)
       simp [ldd, h1, this]
   . have e1 : ldd (f + 1) 0 0 (.r g a) = ldd f r 0 (.r g a) := decide_eq_decide.2 (by omega)
     rw [e1]
 | c o => rfl⟩
theorem Ld.eq {p : Pg} {x Y : Pts} (h : Ld p x p.funcs.length 0 (a0i p).length Y) (hx : Form p x) : Y = x := by
 have hY := h.shp
 have hr : Y.regs.length = x.regs.length := hY.rn.trans hx.rn.symm
 have hc : Y.cells.length = x.cells.length := hY.cn.trans hx.cn.symm
 refine Pts.ext' (hY.sites.trans hx.sites.symm) ?_ ?_
 . refine List.ext_getElem hr fun f h1 h2 => ?_
   have hf : f < p.funcs.length := by rw [<- hx.rn]; exact h2
   have e1 := hY.fn f h1 hf
   have e2 := hx.fn f h2 hf
   refine List.ext_getElem (by omega) fun a h3 h4 => ?_
   have := h.at' (.r f a)
   simp only [ldd, hf, true_or, decide_true, if_true, getS, rg, Int.toNat_natCast, List.getD_eq_getElem?_getD, List.getElem?_eq_getElem h1, List.getElem?_eq_getElem h2, Option.getD_some, List.getElem?_eq_getElem h3, List.getElem?_eq_getElem h4] at this
   exact this
 . refine List.ext_getElem hc fun o h1 h2 => ?_
   have := h.at' (.c o)
   have ho : o < (a0i p).length := by rw [<- hx.cn]; exact h2
   simp only [ldd, ho, decide_true, if_true, getS, cl, Int.toNat_natCast, List.getD_eq_getElem?_getD, List.getElem?_eq_getElem h1, List.getElem?_eq_getElem h2, Option.getD_some] at this
   exact this
def LS (g : Pts -> Pts) (C : Pts -> Prop) : Prop := ∀ x z, C z -> sub x z -> sub (g x) z
theorem b6u {y z : Pts} (h : sub y z) (o : Int) : ∀ v ∈ cl y o, v ∈ cl z o := fun v hv => by
 rw [<- b7p] at hv ⊢; exact h.2 _ v hv
theorem LS.id : LS (fun x => x) (fun _ => True) := fun _ _ _ h => h
theorem LS.comp {g h : Pts -> Pts} {C D : Pts -> Prop} (hg : LS g C) (hh : LS h D) : LS (fun x => h (g x)) (fun z => C z /\ D z) := fun x z hc hs => hh _ z hc.2 (hg x z hc.1 hs)
theorem LS.congr {g g' : Pts -> Pts} {C D : Pts -> Prop} (hg : LS g C) (e : ∀ x, g' x = g x) (h : ∀ z, D z -> C z) : LS g' D := fun x z hd hs => by rw [e]; exact hg x z (h z hd) hs
theorem LS.addR {i : Nat} {a : Int} {S : Pts -> List Int} (hS : ∀ x z, sub x z -> ∀ o ∈ S x, o ∈ S z) : LS (fun x => addR x i a (S x)) (fun z => subR (rg z i a) (S z)) := fun x z hC h => by
 refine ⟨h.1, fun t o ho => ?_⟩
 cases t with
 | r g b =>
   have ho : o ∈ rg (Gv.addR x i a (S x)) g (b : Int) := ho
   show o ∈ rg z g (b : Int)
   rw [c4j] at ho
   split at ho
   . rename_i e
     have e2 : rg z g (b : Int) = rg z i a := by unfold rg; rw [e.1.1, e.2.1]
     rw [e2]
     rcases a5y.1 ho with h1 | h1
     . exact b2v h i a o h1
     . exact hC o (hS x z h o h1)
   . exact b2v h g (b : Int) o ho
 | c b => exact h.2 (.c b) o ho
theorem LS.addC {c : Int} {S : Pts -> List Int} (hS : ∀ x z, sub x z -> ∀ o ∈ S x, o ∈ S z) : LS (fun x => addC x c (S x)) (fun z => subR (cl z c) (S z)) := fun x z hC h => by
 refine ⟨h.1, fun t o ho => ?_⟩
 cases t with
 | r g b => exact h.2 (.r g b) o ho
 | c b =>
   have ho : o ∈ (x.cells.set c.toNat (a3v (cl x c) (S x))).getD (b : Int).toNat [] := ho
   show o ∈ cl z (b : Int)
   rw [a6k] at ho
   split at ho
   . rename_i e
     have e2 : cl z (b : Int) = cl z c := by unfold cl; rw [e.1]
     rw [e2]
     rcases a5y.1 ho with h1 | h1
     . exact b6u h c o h1
     . exact hC o (hS x z h o h1)
   . exact b6u h (b : Int) o ho
theorem LS.foldl {α : Type} {g : Pts -> α -> Pts} {C : Pts -> α -> Prop} {l : List α} (h : ∀ a ∈ l, LS (fun y => g y a) (fun z => C z a)) : LS (fun x => l.foldl g x) (fun z => ∀ a ∈ l, C z a) := by
 induction l with
 | nil => exact fun x z _ hs => hs
 | cons a l ih => exact fun x z hc hs => ih (fun b hb => h b (by simp [hb])) (g x a) z (fun b hb => hc b (by simp [hb])) (h a (by simp) x z (hc a (by simp)) hs)
theorem LS.at {α : Type} {g : Pts -> α -> Pts} {C : Pts -> α -> Prop} {l : Pts -> List α} (hl : ∀ x z, sub x z -> ∀ a ∈ l x, a ∈ l z) (h : ∀ a, LS (fun y => g y a) (fun z => C z a)) : LS (fun x => (l x).foldl g x) (fun z => ∀ a ∈ l z, C z a) := fun x z hc hs =>
 LS.foldl (C := C) (l := l x) (fun a _ => h a) x z (fun a ha => hc a (hl x z hs a ha)) hs
theorem b6g {l S : Pts -> List Int} (hl : ∀ x z, sub x z -> ∀ a ∈ l x, a ∈ l z) (hS : ∀ x z, sub x z -> ∀ o ∈ S x, o ∈ S z) : LS (fun x => a5q x (l x) (S x)) (fun z => ∀ c ∈ l z, subR (cl z c) (S z)) := fun x z hc hs => by
 have h1 : LS (fun y => (l x).foldl (fun y o => Gv.addC y o (S x)) y) (fun z => ∀ c ∈ l x, subR (cl z c) (S x)) := LS.foldl fun c _ => LS.addC fun _ _ _ _ h => h
 exact h1 x z (fun c hc' o ho => hc c (hl x z hs c hc') o (hS x z hs o ho)) hs
theorem a8s {i : Nat} {a : Int} : ∀ x z, sub x z -> ∀ o ∈ rg x i a, o ∈ rg z i a := fun _ _ h => b2v h i a
theorem c0t {i : Nat} {a b : Int} : LS (fun x => addR x i a (a8t x (rg x i b))) (fun z => ∀ o ∈ rg z i b, subR (rg z i a) (cl z o)) :=
 (LS.addR fun x z h o ho => by
  obtain ⟨c, hc, ho⟩ := b6f.1 ho
  exact b6f.2 ⟨c, b2v h i b c hc, b6u h c o ho⟩).congr (fun _ => rfl) fun z hz => c6d.2 hz
theorem d3d {i : Nat} {n : Ins} (k : Nat) : LS (fun x => a6g x i n k) (fun x => ∀ j : Nat, j < k -> subR (rg x n.b.toNat j) (rg x i (n.c + j))) :=
 (LS.foldl (l := List.range k) (g := fun y (j : Nat) => Gv.addR y n.b.toNat j (rg y i (n.c + j))) (C := fun x j => subR (rg x n.b.toNat j) (rg x i (n.c + j))) fun j _ => LS.addR a8s).congr (fun _ => rfl) fun x h j hj => h j (by simpa using hj)
theorem e5y {i : Nat} {n : Ins} (code : List Ins) : LS (fun x => b0n x i n code) (fun x => ∀ m ∈ code, m.op = 30 /\ 0 <= m.a -> subR (rg x i n.a) (rg x n.b.toNat m.a)) := by
 refine LS.foldl (g := fun y (m : Ins) => if m.op = 30 /\ 0 <= m.a then Gv.addR y i n.a (rg y n.b.toNat m.a) else y) (C := fun x m => m.op = 30 /\ 0 <= m.a -> subR (rg x i n.a) (rg x n.b.toNat m.a)) fun m _ => ?_
 by_cases h : m.op = 30 /\ 0 <= m.a
 . simp only [h, and_self, if_true, true_imp_iff]
   exact LS.addR a8s
 . simp only [h, if_false, false_imp_iff]
   exact LS.id
theorem e6a {i : Nat} {n : Ins} {o : Int} (k : Nat) : LS (fun x => b5s x i n o k) (fun x => ∀ j : Nat, j < k -> subR (cl x o) (rg x i (n.a + (j + 1)))) :=
 (LS.foldl (l := List.range k) (g := fun y (j : Nat) => a5q y [o] (rg y i (n.a + (j + 1)))) (C := fun x j => ∀ c ∈ [o], subR (cl x c) (rg x i (n.a + (j + 1)))) fun j _ => b6g (l := fun _ => [o]) (S := fun x => rg x i (n.a + (j + 1))) (fun _ _ _ _ h => h) a8s).congr (fun _ => rfl) fun x h j hj c hc => by
  rw [List.mem_singleton] at hc; subst hc; exact h j (by simpa using hj)
theorem e6b {p : Pg} (hp : VOk p) (i : Nat) (a : Int) : LS (fun x => a7y p x (rg x i a)) (fun x => ∀ o ∈ rg x i a, ∀ k ∈ a5e p x o, subR (rg x k.toNat 0) [o]) :=
 LS.at (C := fun x (o : Int) => ∀ k ∈ a5e p x o, subR (rg x k.toNat 0) [o]) a8s fun o =>
  LS.at (C := fun y (k : Int) => subR (rg y k.toNat 0) [o]) (fun _ _ h => b3y hp h) fun k => LS.addR fun _ _ _ _ h => h
theorem e5x {p : Pg} (hp : VOk p) {i : Nat} (pc : Nat) (n : Ins) : LS (a3s p i pc n) (a3t p i pc n) := by
 unfold a3s a3t
 by_cases e : n.op = 18
 . simp only [e, if_true]; exact LS.addR fun _ _ _ _ h => h
 simp only [e, if_false]
 by_cases e : alO n.op = true
 . simp only [e, if_true]
   have h1 : LS (fun x => Gv.addR x i n.a [(objR (a0i p) ((i : Int), (pc : Int)) : Int)]) (fun z => subR (rg z i n.a) [(objR (a0i p) ((i : Int), (pc : Int)) : Int)]) := LS.addR fun _ _ _ _ h => h
   by_cases e2 : n.op = 24
   . simp only [e2, if_true, true_imp_iff]
     exact ((e6a (i := i) (n := n) n.c.toNat).comp h1).congr (fun _ => rfl) fun z h => And.comm.1 h
   . simp only [e2, if_false, false_imp_iff, and_true]
     exact h1
 simp only [e]
 by_cases e : n.op = 3 \/ n.op = 19 \/ n.op = 20
 . simp only [e, if_true]; exact LS.addR a8s
 simp only [e, if_false]
 by_cases e : n.op = 25
 . simp only [e, if_true]; exact c0t
 simp only [e, if_false]
 by_cases e : n.op = 33 \/ n.op = 35
 . simp only [e, if_true]; exact c0t
 simp only [e, if_false]
 by_cases e : n.op = 34 \/ n.op = 36 \/ n.op = 47
 . simp only [e, if_true]; exact b6g a8s a8s
 simp only [e, if_false]
 by_cases e : n.op = 38
 . simp only [e, if_true]; exact b6g a8s a8s
 simp only [e, if_false]
 by_cases e : n.op = 48
 . simp only [e, if_true]
   by_cases h0 : 0 <= n.a
   . simp only [h0, if_true, true_imp_iff]; exact c0t
   . simp only [h0, if_false, false_imp_iff]; exact LS.id
 simp only [e, if_false]
 by_cases e : n.op = 51
 . simp only [e, if_true]
   by_cases h1 : n.b = 1
   . simp only [h1, if_true]; exact b6g a8s a8s
   . simp only [h1, if_false]
     by_cases h0 : 0 <= n.c
     . simp only [h0, if_true, true_imp_iff]; exact c0t
     . simp only [h0, if_false, false_imp_iff]; exact LS.id
 simp only [e, if_false]
 by_cases e : n.op = 26 \/ n.op = 28 \/ n.op = 31
 . simp only [e, if_true]
   by_cases e2 : n.op = 26 /\ 0 <= n.a
   . have := (d3d (i := i) (n := n) ((fnAt p n.b).params.toNat)).comp (e5y (i := i) (n := n) (fnAt p n.b).code)
     simp only [e2, and_self, if_true, true_imp_iff]
     exact this
   . simp only [e2, if_false, false_imp_iff, and_true]
     exact d3d _
 simp only [e, if_false]
 by_cases e : n.op = 27 \/ n.op = 29 \/ n.op = 32
 . simp only [e, if_true]; exact e6b hp i n.a
 simp only [e, if_false]
 exact LS.id
theorem e5z {p : Pg} (hp : VOk p) {i : Nat} {code : List Ins} (k : Nat) (hk : k <= code.length) : LS (b3g p i code k) (fun x => ∀ j (hj : j < code.length), j < k -> a3t p i j code[j] x) := by
 induction k with
 | zero => exact LS.id.congr (fun _ => rfl) fun z _ => trivial
 | succ k ih =>
   have hk' : k < code.length := by omega
   have := (ih (by omega)).comp (e5x hp (i := i) k code[k])
   exact this.congr (fun x => by simp only [b3g, List.getElem?_eq_getElem hk']) fun x h => ⟨fun j hj hjk => h j hj (by omega), h k hk' (by omega)⟩
theorem d9a {p : Pg} (hp : VOk p) (k : Nat) (hk : k <= p.funcs.length) : LS (fun x => b1l p x k) (fun x => ∀ i (hi : i < p.funcs.length), i < k -> ∀ j (hj : j < p.funcs[i].code.length), a3t p i j p.funcs[i].code[j] x) := by
 induction k with
 | zero => exact LS.id.congr (fun _ => rfl) fun z _ => trivial
 | succ k ih =>
   have hk' : k < p.funcs.length := by omega
   have := (ih (by omega)).comp (e5z hp (i := k) (code := p.funcs[k].code) _ (Nat.le_refl _))
   exact this.congr (fun x => by simp only [b1l, List.getElem?_eq_getElem hk']) fun x h => ⟨fun i hi hik j hj => h i hi (by omega) j hj, fun j hj _ => h k hk' (by omega) j hj⟩
theorem c9t {p : Pg} (hp : VOk p) {x z : Pts} (hz : a5p p z) (h : sub x z) : sub (a9x p x) z :=
 d9a hp p.funcs.length (Nat.le_refl _) x z (fun i hi _ j hj => hz i hi j hj) h
structure Least (p : Pg) (x : Pts) : Prop where
 form : Form p x
 conds : a5p p x
 least : ∀ z, a5p p z -> z.sites = a0i p -> sub x z
theorem c2x {p : Pg} {x y : Pts} (hx : Form p x) (hy : Form p y) (h : sub x y) : le x y := by
 refine ⟨h.1, by rw [hx.cn, hy.cn], by rw [hx.rn, hy.rn], fun f => ?_, fun f a o ho => b2v h f a o ho, fun c o ho => b6u h c o ho⟩
 rw [List.getD_eq_getElem?_getD, List.getD_eq_getElem?_getD]
 by_cases hf : f < p.funcs.length
 . have h1 : f < x.regs.length := by rw [hx.rn]; exact hf
   have h2 : f < y.regs.length := by rw [hy.rn]; exact hf
   rw [List.getElem?_eq_getElem h1, List.getElem?_eq_getElem h2, Option.getD_some, Option.getD_some]
   have := hx.fn f h1 hf
   have := hy.fn f h2 hf
   omega
 . rw [List.getElem?_eq_none (l := x.regs) (by rw [hx.rn]; omega), List.getElem?_eq_none (l := y.regs) (by rw [hy.rn]; omega)]
theorem Least.unique {p : Pg} {x y : Pts} (hx : Least p x) (hy : Least p y) : x = y :=
 le.anti hx.form hy.form (c2x hx.form hy.form (hx.least y hy.conds hy.form.sites)) (c2x hy.form hx.form (hy.least x hx.conds hx.form.sites))
theorem b0s : ∀ (b a : List Int), inc a -> inc b -> (∀ x ∈ a, x ∈ b) -> List.Sublist a b
 | [], a, _, _, h => by
   cases a with
   | nil => exact List.Sublist.refl _
   | cons d a => exact absurd (h d (by simp)) (by simp)
 | c :: b, [], _, _, _ => List.nil_sublist _
 | c :: b, d :: a, ha, hb, h => by
   obtain ⟨ha1, ha2⟩ := List.pairwise_cons.1 ha
   obtain ⟨hb1, hb2⟩ := List.pairwise_cons.1 hb
   by_cases e : d = c
   . subst e
     refine List.Sublist.cons_cons _ (b0s b a ha2 hb2 fun x hx => ?_)
     rcases List.mem_cons.1 (h x (by simp [hx])) with e | e
     . have := ha1 x hx; omega
     . exact e
   . have hd : d ∈ b := by
      rcases List.mem_cons.1 (h d (by simp)) with e' | e'
      . exact absurd e' e
      . exact e'
     have hcd := hb1 d hd
     refine List.Sublist.cons _ (b0s b (d :: a) ha hb2 fun x hx => ?_)
     rcases List.mem_cons.1 (h x hx) with e' | e'
     . rcases List.mem_cons.1 hx with e2 | e2
       . exact absurd (e2.symm.trans e') e
       . have := ha1 x e2; omega
     . exact e'
theorem c0v : ∀ (a b : List (List Int)), a.length = b.length -> (∀ i (h : i < a.length) (h' : i < b.length), List.Sublist a[i] b[i]) -> lens a <= lens b /\ (lens a = lens b -> a = b)
 | [], [], _, _ => ⟨Nat.le_refl _, fun _ => rfl⟩
 | [], _ :: _, h, _ => by simp at h
 | _ :: _, [], h, _ => by simp at h
 | a :: az, b :: bs, hl, h => by
   have h0 : List.Sublist a b := h 0 (by simp) (by simp)
   have ih := c0v az bs (by simpa using hl) fun i h1 h2 => h (i + 1) (by simp; omega) (by simp; omega)
   have hle := h0.length_le
   have e1 : lens (a :: az) = a.length + lens az := by simp [lens]
   have e2 : lens (b :: bs) = b.length + lens bs := by simp [lens]
   refine ⟨by omega, fun e => ?_⟩
   have := ih.1
   rw [h0.eq_of_length (by omega), ih.2 (by omega)]
theorem c2w : ∀ (a b : List (List (List Int))), a.length = b.length -> (∀ i (h : i < a.length) (h' : i < b.length), lens a[i] <= lens b[i] /\ (lens a[i] = lens b[i] -> a[i] = b[i])) -> (a.map lens).sum <= (b.map lens).sum /\ ((a.map lens).sum = (b.map lens).sum -> a = b)
 | [], [], _, _ => ⟨Nat.le_refl _, fun _ => rfl⟩
 | [], _ :: _, h, _ => by simp at h
 | _ :: _, [], h, _ => by simp at h
 | a :: az, b :: bs, hl, h => by
   have h0 : lens a <= lens b /\ (lens a = lens b -> a = b) := h 0 (by simp) (by simp)
   have ih := c2w az bs (by simpa using hl) fun i h1 h2 => h (i + 1) (by simp; omega) (by simp; omega)
   have e1 : ((a :: az).map lens).sum = lens a + (az.map lens).sum := by simp
   have e2 : ((b :: bs).map lens).sum = lens b + (bs.map lens).sum := by simp
   have := ih.1
   have := h0.1
   refine ⟨by omega, fun e => ?_⟩
   rw [h0.2 (by omega), ih.2 (by omega)]
theorem c4i {x : Pts} {f a : Nat} (hf : f < x.regs.length) (ha : a < x.regs[f].length) : rg x f (a : Int) = x.regs[f][a] := by
 unfold rg
 rw [List.getD_eq_getElem?_getD, List.getD_eq_getElem?_getD, List.getElem?_eq_getElem hf, Option.getD_some, Int.toNat_natCast, List.getElem?_eq_getElem ha, Option.getD_some]
theorem d0h {x : Pts} {o : Nat} (ho : o < x.cells.length) : cl x (o : Int) = x.cells[o] := by
 unfold cl
 rw [List.getD_eq_getElem?_getD, Int.toNat_natCast, List.getElem?_eq_getElem ho, Option.getD_some]
theorem e5d {p : Pg} {x y : Pts} (hx : Form p x) (hy : Form p y) (h : le x y) : b1h x <= b1h y /\ (¬ x = y -> b1h x < b1h y) := by
 have hr := c2w x.regs y.regs (by rw [h.rn]) fun f h1 h2 => by
  have hl : x.regs[f].length = y.regs[f].length := by
   have := h.fn f
   rw [List.getD_eq_getElem?_getD, List.getD_eq_getElem?_getD, List.getElem?_eq_getElem h1, List.getElem?_eq_getElem h2] at this
   exact this.symm
  exact c0v _ _ hl fun a g1 g2 => by
   have := h.rs f (a : Int)
   rw [c4i h1 g1, c4i h2 g2] at this
   exact b0s _ _ (hx.rs f h1 _ (List.getElem_mem g1)).1 (hy.rs f h2 _ (List.getElem_mem g2)).1 this
 have hc := c0v x.cells y.cells (by rw [h.cn]) fun o g1 g2 => by
  have := h.cs (o : Int)
  rw [d0h g1, d0h g2] at this
  exact b0s _ _ (hx.cs _ (List.getElem_mem g1)).1 (hy.cs _ (List.getElem_mem g2)).1 this
 have h1 := hr.1
 have h2 := hc.1
 refine ⟨by unfold b1h; omega, fun hne => ?_⟩
 refine Nat.lt_of_le_of_ne (by unfold b1h; omega) fun e => hne ?_
 unfold b1h at e
 exact Pts.ext' h.sites.symm (hr.2 (by omega)) (hc.2 (by omega))
structure Rnd (p : Pg) (x : Pts) : Prop where
 form : Form p x
 least : ∀ z, a5p p z -> z.sites = a0i p -> sub x z
theorem b7e {p : Pg} (hp : VOk p) {x : Pts} (hx : Form p x) : Form p (a9x p x) /\ le x (a9x p x) := (c1b hp p.funcs.length (Nat.le_refl _)).1 x hx
theorem Rnd.next {p : Pg} (hp : VOk p) {x : Pts} (h : Rnd p x) : Rnd p (a9x p x) :=
 ⟨(b7e hp h.form).1, fun z hz hs => c9t hp hz (h.least z hz hs)⟩
theorem Rnd.fin {p : Pg} (hp : a2v p = true) {x : Pts} (h : Rnd p x) (e : x = a9x p x) : Least p x := ⟨h.form, (c6q hp h.form).1 e.symm, h.least⟩
theorem Form.size {p : Pg} {x : Pts} (hp : VOk p) (h : Form p x) : b1h x <= (p.funcs.length * 64 + (a0i p).length) * (a0i p).length := c6e h.shp fun f hf => (hp.regs hf).r64
def muR (p : Pg) (x : Pts) : Nat := (p.funcs.length * 64 + (a0i p).length) * (a0i p).length - b1h x
theorem Rnd.mu {p : Pg} (hp : VOk p) {x : Pts} (h : Rnd p x) (e : ¬ x = a9x p x) : muR p (a9x p x) < muR p x := by
 have h1 := b7e hp h.form
 have := (e5d h.form h1.1 h1.2).2 e
 have := h1.1.size hp
 unfold muR; omega
def srt (l : List Int) : List Int := l.mergeSort fun a b => decide (a <= b)
theorem b4r {l : List Int} {o : Int} : o ∈ srt l ↔ o ∈ l := List.mem_mergeSort
theorem c4c : srt [] = [] := by simp [srt]
theorem b4i (l : List Int) : (srt l).length = l.length := List.length_mergeSort l
theorem d1m {l : List Int} (h : l.Nodup) : inc (srt l) := by
 have h1 : (srt l).Pairwise (fun a b => a <= b) := by
  have := List.pairwise_mergeSort (le := fun a b : Int => decide (a <= b)) (fun a b c h1 h2 => by simp only [decide_eq_true_eq] at *; omega) (fun a b => by simp only [Bool.or_eq_true, decide_eq_true_eq]; omega) l
  exact this.imp fun h => by simpa using h
 have h2 : (srt l).Nodup := (List.mergeSort_perm l _).nodup_iff.2 h
 have h3 := List.pairwise_and_iff.2 ⟨h1, h2⟩
 exact h3.imp fun ⟨h1, h2⟩ => by omega
def a9e (y : Pts) : Pts := ⟨y.sites, y.regs.map (·.map srt), y.cells.map srt⟩
theorem d2i (y : Pts) (f : Nat) (a : Int) : rg (a9e y) f a = srt (rg y f a) := by
 unfold rg a9e
 simp only [List.getD_eq_getElem?_getD, List.getElem?_map]
 cases y.regs[f]? with
 | none => simp [c4c]
 | some r =>
   simp only [Option.map_some, Option.getD_some, List.getElem?_map]
   cases r[a.toNat]? <;> simp [c4c]
theorem d5v (y : Pts) (o : Int) : cl (a9e y) o = srt (cl y o) := by
 unfold cl a9e
 simp only [List.getD_eq_getElem?_getD, List.getElem?_map]
 cases y.cells[o.toNat]? <;> simp [c4c]
theorem b9x (y : Pts) : sub (a9e y) y /\ sub y (a9e y) := by
 refine ⟨⟨rfl, fun t o ho => ?_⟩, ⟨rfl, fun t o ho => ?_⟩⟩
 . cases t with
   | r f a => have ho : o ∈ rg (a9e y) f (a : Int) := ho; rw [d2i] at ho; exact b4r.1 ho
   | c b => have ho : o ∈ cl (a9e y) (b : Int) := ho; rw [d5v] at ho; exact b4r.1 ho
 . cases t with
   | r f a => show o ∈ rg (a9e y) f (a : Int); rw [d2i]; exact b4r.2 ho
   | c b => show o ∈ cl (a9e y) (b : Int); rw [d5v]; exact b4r.2 ho
theorem c3h {p : Pg} (hp : VOk p) {x y : Pts} (h : sub x y) (h' : sub y x) : a5p p x ↔ a5p p y := by
 have hr : ∀ f a o, o ∈ rg x f a ↔ o ∈ rg y f a := fun f a o => ⟨b2v h f a o, b2v h' f a o⟩
 have hc : ∀ c o, o ∈ cl x c ↔ o ∈ cl y c := fun c o => ⟨b6u h c o, b6u h' c o⟩
 have hf : ∀ o k, k ∈ a5e p x o ↔ k ∈ a5e p y o := fun o k => ⟨b3y hp h k, b3y hp h' k⟩
 have key : ∀ f pc n, a3t p f pc n x ↔ a3t p f pc n y := fun f pc n => by
  unfold a3t
  simp only [subR, hr, hc, hf]
 unfold a5p
 simp only [key]
theorem okA.srt {n : Nat} {l : List Int} (h : okA n l) : okS n (srt l) := ⟨d1m h.1, fun x hx => h.2 x (b4r.1 hx)⟩
theorem d1p {p : Pg} {y : Pts} (h : Shp p y) : Form p (a9e y) := by
 refine ⟨h.sites, by simp [a9e, h.cn], by simp [a9e, h.rn], fun f h1 h2 => ?_, fun f h1 s hs => ?_, fun s hs => ?_⟩
 . have h3 : f < y.regs.length := by simpa [a9e] using h1
   have := h.fn f h3 h2
   simpa [a9e] using this
 . have h3 : f < y.regs.length := by simpa [a9e] using h1
   have hs : s ∈ y.regs[f].map Gv.srt := by simpa [a9e] using hs
   obtain ⟨t, ht, rfl⟩ := List.mem_map.1 hs
   exact (h.rs f h3 t ht).srt
 . obtain ⟨t, ht, rfl⟩ := List.mem_map.1 hs
   exact (h.cs t ht).srt
structure Crd (p : Pg) (y : Pts) : Prop where
 shp : Shp p y
 least : ∀ z, a5p p z -> z.sites = a0i p -> sub y z
theorem Crd.step {p : Pg} {y y' : Pts} {b' : Bool} (h : Crd p y) (hs : Shp p y') (ht : TR false (a5p p) (a5p p) y false y' b') : Crd p y' :=
 ⟨hs, fun z hz e => ht.least z hz (h.least z hz e)⟩
theorem Crd.fin {p : Pg} (hp : VOk p) {y y' : Pts} (h : Crd p y) (ht : TR false (a5p p) (a5p p) y false y' false) : y' = y /\ Least p (a9e y) := by
 obtain ⟨_, h1, h2⟩ := ht.good rfl
 refine ⟨h1, d1p h.shp, (c3h hp (b9x y).1 (b9x y).2).2 h2, fun z hz e => (b9x y).1.trans (h.least z hz e)⟩
theorem Crd.mu {p : Pg} (hp : VOk p) {y y' : Pts} (hs : Shp p y') (ht : TR false (a5p p) (a5p p) y false y' true) : muR p y' < muR p y := by
 rcases ht.prog rfl with ⟨_, h⟩ | ⟨h, _⟩
 . cases h
 . have := c6e hs fun f hf => (hp.regs hf).r64
   unfold muR; omega
def p0 : Pg := ⟨[⟨⟨⟨[109, 97, 105, 110]⟩⟩, 0, 3, [⟨21, 0, 0, 0, 0⟩, ⟨18, 1, 0, 0, 0⟩, ⟨34, 1, 0, 0, 0⟩, ⟨33, 2, 1, 0, 0⟩, ⟨30, -1, 0, 0, 0⟩]⟩], [⟨⟨⟨[120]⟩⟩, 1⟩], [[0]], 0⟩
def x0 : Pts := ⟨[(0, 0), (0, 0)], [[[1], [0], [1]]], [[1], []]⟩
theorem c5p : a2v p0 = true := by decide +kernel
theorem b0k : a0i p0 = [(0, 0), (0, 0)] := by decide +kernel
theorem e2m : objR [(0, 0), (0, 0)] (0, 0) = 1 := by decide +kernel
theorem d4v : Form p0 x0 := by
 refine ⟨b0k.symm, by rw [b0k]; rfl, rfl, fun f h h' => ?_, fun f h s hs => ?_, fun s hs => ?_⟩
 . match f with
   | 0 => rfl
 . rw [b0k]
   match f with
   | 0 =>
     have hs : s ∈ [[1], [0], [(1 : Int)]] := hs
     simp at hs
     rcases hs with rfl | rfl | rfl <;> exact ⟨by simp [inc], by simp⟩
 . rw [b0k]
   have hs : s ∈ [[1], ([] : List Int)] := hs
   simp at hs
   rcases hs with rfl | rfl <;> exact ⟨by simp [inc], by simp⟩
theorem c8k (z : Pts) : a5p p0 z ↔ (1 ∈ rg z 0 0 /\ 0 ∈ rg z 0 1 /\ (∀ o ∈ rg z 0 1, ∀ v ∈ rg z 0 0, v ∈ cl z o) /\ ∀ o ∈ rg z 0 1, ∀ v ∈ cl z o, v ∈ rg z 0 2) := by
 have hl : p0.funcs.length = 1 := rfl
 have hc : p0.funcs[0].code.length = 5 := rfl
 have e0 : a3t p0 0 0 ⟨21, 0, 0, 0, 0⟩ z ↔ 1 ∈ rg z 0 0 := by
  have := e2m
  simp [a3t, alO, subR, b0k, e2m]
 have e1 : a3t p0 0 1 ⟨18, 1, 0, 0, 0⟩ z ↔ 0 ∈ rg z 0 1 := by simp [a3t, subR]
 have e2 : a3t p0 0 2 ⟨34, 1, 0, 0, 0⟩ z ↔ ∀ o ∈ rg z 0 1, ∀ v ∈ rg z 0 0, v ∈ cl z o := by simp [a3t, alO, subR]
 have e3 : a3t p0 0 3 ⟨33, 2, 1, 0, 0⟩ z ↔ ∀ o ∈ rg z 0 1, ∀ v ∈ cl z o, v ∈ rg z 0 2 := by simp [a3t, alO, subR]
 have e4 : a3t p0 0 4 ⟨30, -1, 0, 0, 0⟩ z ↔ True := by simp [a3t, alO]
 constructor
 . intro h
   exact ⟨e0.1 (h 0 (by decide) 0 (by decide)), e1.1 (h 0 (by decide) 1 (by decide)), e2.1 (h 0 (by decide) 2 (by decide)), e3.1 (h 0 (by decide) 3 (by decide))⟩
 . rintro ⟨h0, h1, h2, h3⟩ i hi j hj
   match i, hi with
   | 0, _ =>
     match j, hj with
     | 0, _ => exact e0.2 h0
     | 1, _ => exact e1.2 h1
     | 2, _ => exact e2.2 h2
     | 3, _ => exact e3.2 h3
     | 4, _ => exact e4.2 trivial
theorem c7e : Least p0 x0 := by
 refine ⟨d4v, (c8k x0).2 ?_, fun z hz hs => ?_⟩
 . refine ⟨by simp [rg, x0], by simp [rg, x0], fun o ho v hv => ?_, fun o ho v hv => ?_⟩
   . simp [rg, x0] at ho hv; subst ho hv; simp [cl, x0]
   . simp [rg, x0] at ho; subst ho; simp [cl, x0] at hv; subst hv; simp [rg, x0]
 . obtain ⟨h0, h1, h2, h3⟩ := (c8k z).1 hz
   have h4 := h2 0 h1 1 h0
   have h5 := h3 0 h1 1 h4
   refine ⟨by rw [hs, b0k]; rfl, fun t o ho => ?_⟩
   cases t with
   | r f a =>
     have ho : o ∈ rg x0 f (a : Int) := ho
     show o ∈ rg z f (a : Int)
     match f, a with
     | 0, 0 => simp [rg, x0] at ho; subst ho; exact h0
     | 0, 1 => simp [rg, x0] at ho; subst ho; exact h1
     | 0, 2 => simp [rg, x0] at ho; subst ho; exact h5
     | 0, a + 3 =>
       have e : ((a + 3 : Nat) : Int).toNat = a + 3 := Int.toNat_natCast _
       unfold rg at ho; rw [e] at ho; simp [x0] at ho
     | f + 1, a => simp [rg, x0] at ho
   | c a =>
     have ho : o ∈ cl x0 (a : Int) := ho
     show o ∈ cl z (a : Int)
     match a with
     | 0 => simp [cl, x0] at ho; subst ho; exact h4
     | 1 => simp [cl, x0] at ho
     | a + 2 =>
       have e : ((a + 2 : Nat) : Int).toNat = a + 2 := Int.toNat_natCast _
       unfold cl at ho; rw [e] at ho; simp [x0] at ho
end Go.Gv
