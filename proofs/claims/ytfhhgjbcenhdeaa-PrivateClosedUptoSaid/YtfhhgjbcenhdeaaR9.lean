/- Parts of the proof. -/
import Derived.Test.YtfhhgjbcenhdeaaR7
import Derived.Test.YtfhhgjbcenhdeaaR8
import Derived.Test.YtfhhgjbcenhdeaaR2
import Derived.WalkKit
set_option linter.unusedSimpArgs false
set_option linter.unusedVariables false
namespace Go.He
open Go Go.FM Go.Proofs
set_option maxRecDepth 100000
set_option maxHeartbeats 40000000
theorem a5s (m n : Nat) : ((m : Int) = (n : Int)) = (m = n) := by rw [Int.ofNat_inj]
theorem c31 (a b c : Int) : PC Try.prog Gl 37 [.int .i64 a, .int .i64 b, .int .i64 c] (.bool (decide (b <= a /\ a <= c))) := by
 refine b0o (res := [.tmp 6]) 7 15 [] (fun d ix => d :: ix) (fn := Try.f37) (by kernel_rfl) (by rfl) (by rfl) (by rfl) (by simp) (by decide) ?_
 repeat' first
  | with_reducible refine stp ?_
  | (with_reducible refine stpK ?_; intro K hK)
  | (with_reducible refine stpC ?_; intro T E hT hE)
  | (with_reducible refine stp2 ?_ ?_ <;> intro h)
  | with_reducible first | refine a0q rfl ?_ | refine a0t rfl (by decide) a0s ?_ | refine a0t rfl (by decide) (a0r (by simp [upd, noH, ext, a5v, a4o, *])) ?_ | refine a1v (by decide) (by kernel_rfl) ?_ | refine a0x (by decide) ?_
  | (with_reducible refine Kont.go hK ?_; clear hK K)
  | ((with_reducible first | refine KT.go hT ?_ | refine KT.go hE ?_); clear hT hE T E)
  | simp [*, -List.all_flatten, -List.all_eq_true, b3a, Fs.init, Fs.get, Fs.put, Fs.clean, lk, upd, ext, noH, cv1, cv, rv, FV.isU, FV.cellV, FV.cellsL, FV.storable, b5n, b7w, b7v, fLen, fBin, fUn, c4o, b8g, b7u, a9h, b3y, pv, pv1, pv2, wv, b5c, wBox, b5a, a8g, b5b, b3h, b2v, wApp, srcA, a7u, upds, List.foldl_cons, List.foldl_nil, b3z, fNil, fUn2, c4p, fCmp, c2p, eqK, a4u, eqV, FV.kd, c4q, nilV, putD, b4s, a2l, a3b, b2j, a5l, b8i, resV, resL, a2u, StK, b5s, b3g, e0g, e0h, c8i, c8j, c2k, HG_t, HG_f, e0e, e0f, nl, nls, nlss, frz, frzs, frzR, asR, asRs, Fend, c8f, b6g, b3w, frzN, nf, nfs, a5v, a4o, b0i]
 all_goals (simp_all)
end Go.He
namespace Go.He
open Go Go.FM Go.Gv Go.Proofs
set_option maxRecDepth 100000
set_option maxHeartbeats 40000000
@[simp] theorem b2e : Program.eqGuardType Try.prog (Program.depth Try.prog) 50 = Bool.false := by kernel_rfl
@[simp] theorem b2n : Program.eqGuardType Try.prog (Program.depth Try.prog) 4 = Bool.false := by kernel_rfl
@[simp] theorem b2m : Program.eqGuardType Try.prog (Program.depth Try.prog) 5 = Bool.false := by kernel_rfl
@[simp] theorem b2l : Program.eqGuardType Try.prog (Program.depth Try.prog) 9 = Bool.false := by kernel_rfl
@[simp] theorem f4w : arE Try.prog 103 = Option.none := by kernel_rfl
@[simp] theorem b7t : arE Try.prog 106 = (Option.some (3, 3)) := by kernel_rfl
@[simp] theorem f4v : arE Try.prog 112 = (Option.some (53, 103)) := by kernel_rfl
@[simp] theorem f9t : arE Try.prog 26 = Option.none := by kernel_rfl
@[simp] theorem f9p : arE Try.prog 50 = Option.none := by kernel_rfl
@[simp] theorem f9n : arE Try.prog 79 = Option.none := by kernel_rfl
@[simp] theorem g2t : arE Try.prog 9 = Option.none := by kernel_rfl
@[simp] theorem f4u : arT Try.prog 112 = (Option.some (53, 2)) := by kernel_rfl
@[simp] theorem f9l : arT Try.prog 22 = Option.none := by kernel_rfl
@[simp] theorem f9k : arT Try.prog 23 = Option.none := by kernel_rfl
@[simp] theorem f9j : arT Try.prog 24 = Option.none := by kernel_rfl
@[simp] theorem f9e : arT Try.prog 43 = Option.none := by kernel_rfl
@[simp] theorem f9f : arT Try.prog 41 = Option.none := by kernel_rfl
@[simp] theorem e8k : c1h Try.prog 50 = Bool.false := by kernel_rfl
@[simp] theorem f4s : c1h Try.prog 4 = Bool.true := by kernel_rfl
@[simp] theorem f4r : c1h Try.prog 5 = Bool.false := by kernel_rfl
@[simp] theorem f4q : c1h Try.prog 9 = Bool.false := by kernel_rfl
@[simp] theorem g2s : byT Try.prog 3 = (Option.some 8) := by kernel_rfl
@[simp] theorem f8z : byT Try.prog 45 = (Option.some 56) := by kernel_rfl
@[simp] theorem f8y : byT Try.prog 47 = (Option.some 40) := by kernel_rfl
@[simp] theorem f9a : byT Try.prog 41 = (Option.some 24) := by kernel_rfl
@[simp] theorem f8w : byT Try.prog 55 = (Option.some 24) := by kernel_rfl
@[simp] theorem g2q : byT Try.prog 9 = (Option.some 16) := by kernel_rfl
@[simp] theorem e2d : fldT Try.prog 103 1 = (Option.some 1) := by kernel_rfl
@[simp] theorem e6u : fldT Try.prog 26 0 = (Option.some 0) := by kernel_rfl
@[simp] theorem e6t : fldT Try.prog 26 1 = (Option.some 1) := by kernel_rfl
@[simp] theorem e6s : fldT Try.prog 26 2 = (Option.some 2) := by kernel_rfl
@[simp] theorem e6r : fldT Try.prog 26 3 = (Option.some 3) := by kernel_rfl
@[simp] theorem e6n : fldT Try.prog 45 0 = (Option.some 0) := by kernel_rfl
@[simp] theorem e6m : fldT Try.prog 45 1 = (Option.some 1) := by kernel_rfl
@[simp] theorem e6l : fldT Try.prog 45 2 = (Option.some 2) := by kernel_rfl
@[simp] theorem e6k : fldT Try.prog 45 3 = (Option.some 3) := by kernel_rfl
@[simp] theorem e6j : fldT Try.prog 47 0 = (Option.some 0) := by kernel_rfl
@[simp] theorem e6i : fldT Try.prog 47 1 = (Option.some 1) := by kernel_rfl
@[simp] theorem e6h : fldT Try.prog 47 2 = (Option.some 2) := by kernel_rfl
@[simp] theorem e6g : fldT Try.prog 47 3 = (Option.some 3) := by kernel_rfl
@[simp] theorem e6f : fldT Try.prog 47 4 = (Option.some 4) := by kernel_rfl
@[simp] theorem e6c : fldT Try.prog 55 0 = (Option.some 0) := by kernel_rfl
@[simp] theorem e6b : fldT Try.prog 55 1 = (Option.some 1) := by kernel_rfl
@[simp] theorem e5v : fldT Try.prog 79 0 = (Option.some 0) := by kernel_rfl
@[simp] theorem e5u : fldT Try.prog 79 1 = (Option.some 4) := by kernel_rfl
@[simp] theorem f2n : fnOk Try.prog 67 = Bool.true := by kernel_rfl
@[simp] theorem f3b : fnOk Try.prog 51 = Bool.true := by kernel_rfl
@[simp] theorem f3a : fnOk Try.prog 52 = Bool.true := by kernel_rfl
@[simp] theorem f2k : fnOk Try.prog 73 = Bool.true := by kernel_rfl
@[simp] theorem f3z : fnOk Try.prog 26 = Bool.true := by kernel_rfl
@[simp] theorem f4j : fnOk Try.prog 16 = Bool.true := by kernel_rfl
@[simp] theorem f3p : fnOk Try.prog 37 = Bool.true := by kernel_rfl
@[simp] theorem f3o : fnOk Try.prog 38 = Bool.true := by kernel_rfl
@[simp] theorem f3n : fnOk Try.prog 39 = Bool.true := by kernel_rfl
@[simp] theorem f3m : fnOk Try.prog 40 = Bool.true := by kernel_rfl
@[simp] theorem f3l : fnOk Try.prog 41 = Bool.true := by kernel_rfl
@[simp] theorem f3k : fnOk Try.prog 42 = Bool.true := by kernel_rfl
@[simp] theorem f4b : fnOk Try.prog 24 = Bool.true := by kernel_rfl
@[simp] theorem f4a : fnOk Try.prog 25 = Bool.true := by kernel_rfl
@[simp] theorem f2z : fnOk Try.prog 53 = Bool.true := by kernel_rfl
@[simp] theorem f2y : fnOk Try.prog 54 = Bool.true := by kernel_rfl
@[simp] theorem f2x : fnOk Try.prog 55 = Bool.true := by kernel_rfl
@[simp] theorem f2w : fnOk Try.prog 56 = Bool.true := by kernel_rfl
@[simp] theorem f2v : fnOk Try.prog 57 = Bool.true := by kernel_rfl
@[simp] theorem f2u : fnOk Try.prog 58 = Bool.true := by kernel_rfl
@[simp] theorem f3q : fnOk Try.prog 36 = Bool.true := by kernel_rfl
@[simp] theorem f2o : fnOk Try.prog 66 = Bool.true := by kernel_rfl
@[simp] theorem f2i : intT Try.prog 50 = Option.none := by kernel_rfl
@[simp] theorem f8o : intT Try.prog 4 = Option.none := by kernel_rfl
@[simp] theorem f8n : intT Try.prog 5 = (Option.some Go.IntKind.u8) := by kernel_rfl
@[simp] theorem f8m : intT Try.prog 9 = Option.none := by kernel_rfl
@[simp] theorem g2p : kdT Try.prog 4 = (Option.some Go.FM.Kd.bool) := by kernel_rfl
@[simp] theorem g2o : kdT Try.prog 5 = (Option.some (Go.FM.Kd.int Go.IntKind.u8)) := by kernel_rfl
@[simp] theorem g2n : kdT Try.prog 9 = (Option.some Go.FM.Kd.str) := by kernel_rfl
@[simp] theorem f2h : ldT Try.prog 103 = (Option.some (Option.some 2)) := by kernel_rfl
@[simp] theorem f2g : ldT Try.prog 112 = (Option.some (Option.some 106)) := by kernel_rfl
@[simp] theorem f8k : ldT Try.prog 22 = (Option.some Option.none) := by kernel_rfl
@[simp] theorem f8j : ldT Try.prog 23 = (Option.some Option.none) := by kernel_rfl
@[simp] theorem f8i : ldT Try.prog 24 = (Option.some Option.none) := by kernel_rfl
@[simp] theorem f8h : ldT Try.prog 26 = (Option.some (Option.some 4)) := by kernel_rfl
@[simp] theorem f7z : ldT Try.prog 50 = (Option.some (Option.some 2)) := by kernel_rfl
@[simp] theorem f8c : ldT Try.prog 43 = (Option.some Option.none) := by kernel_rfl
@[simp] theorem f8b : ldT Try.prog 45 = (Option.some (Option.some 4)) := by kernel_rfl
@[simp] theorem f8a : ldT Try.prog 47 = (Option.some (Option.some 5)) := by kernel_rfl
@[simp] theorem f8d : ldT Try.prog 41 = (Option.some Option.none) := by kernel_rfl
@[simp] theorem f7y : ldT Try.prog 55 = (Option.some (Option.some 2)) := by kernel_rfl
@[simp] theorem f7r : ldT Try.prog 79 = (Option.some (Option.some 8)) := by kernel_rfl
@[simp] theorem g2l : ldT Try.prog 9 = (Option.some Option.none) := by kernel_rfl
@[simp] theorem f2e : nilT Try.prog 50 = Option.none := by kernel_rfl
@[simp] theorem f7o : nilT Try.prog 4 = Option.none := by kernel_rfl
@[simp] theorem f7n : nilT Try.prog 5 = Option.none := by kernel_rfl
@[simp] theorem f7m : nilT Try.prog 9 = Option.none := by kernel_rfl
@[simp] theorem d9d : a7i Try.prog 103 = (Option.some ((0, 1) :: ((1, 1) :: []))) := by kernel_rfl
@[simp] theorem d9c : a7i Try.prog 106 = Option.none := by kernel_rfl
@[simp] theorem d9b : a7i Try.prog 112 = Option.none := by kernel_rfl
@[simp] theorem e2c : a7i Try.prog 26 = (Option.some ((0, 1) :: ((1, 1) :: ((2, 1) :: ((3, 1) :: []))))) := by kernel_rfl
@[simp] theorem e1w : a7i Try.prog 79 = (Option.some ((0, 4) :: ((4, 4) :: []))) := by kernel_rfl
@[simp] theorem f2d : slT Try.prog 112 = Option.none := by kernel_rfl
@[simp] theorem f7l : slT Try.prog 22 = (Option.some (45, 4)) := by kernel_rfl
@[simp] theorem f7k : slT Try.prog 23 = (Option.some (55, 2)) := by kernel_rfl
@[simp] theorem f7j : slT Try.prog 24 = (Option.some (41, 1)) := by kernel_rfl
@[simp] theorem g2k : slT Try.prog 3 = Option.none := by kernel_rfl
@[simp] theorem f7e : slT Try.prog 43 = (Option.some (47, 5)) := by kernel_rfl
@[simp] theorem f7f : slT Try.prog 41 = (Option.some (3, 1)) := by kernel_rfl
@[simp] theorem f6z : slT Try.prog 77 = (Option.some (9, 1)) := by kernel_rfl
@[simp] theorem g2i : stT Try.prog 4 = Option.none := by kernel_rfl
@[simp] theorem g2h : stT Try.prog 5 = Option.none := by kernel_rfl
@[simp] theorem g2g : stT Try.prog 9 = Option.none := by kernel_rfl
@[simp] theorem e8j : strT Try.prog 106 = Bool.false := by kernel_rfl
@[simp] theorem f2c : strT Try.prog 22 = Bool.false := by kernel_rfl
@[simp] theorem f2b : strT Try.prog 23 = Bool.false := by kernel_rfl
@[simp] theorem f2a : strT Try.prog 24 = Bool.false := by kernel_rfl
@[simp] theorem f6x : strT Try.prog 3 = Bool.false := by kernel_rfl
@[simp] theorem f1v : strT Try.prog 43 = Bool.false := by kernel_rfl
@[simp] theorem f1w : strT Try.prog 41 = Bool.false := by kernel_rfl
@[simp] theorem f1q : strT Try.prog 77 = Bool.false := by kernel_rfl
@[simp] theorem d9a : strT Try.prog 9 = Bool.true := by kernel_rfl
@[simp] theorem f1p : szT Try.prog 103 = (Option.some 2) := by kernel_rfl
@[simp] theorem f1o : szT Try.prog 112 = (Option.some 106) := by kernel_rfl
@[simp] theorem f6w : szT Try.prog 22 = (Option.some 1) := by kernel_rfl
@[simp] theorem f6v : szT Try.prog 24 = (Option.some 1) := by kernel_rfl
@[simp] theorem f6u : szT Try.prog 26 = (Option.some 4) := by kernel_rfl
@[simp] theorem c4i : szT Try.prog 3 = (Option.some 1) := by kernel_rfl
@[simp] theorem f6q : szT Try.prog 43 = (Option.some 1) := by kernel_rfl
@[simp] theorem f6p : szT Try.prog 45 = (Option.some 4) := by kernel_rfl
@[simp] theorem f6o : szT Try.prog 47 = (Option.some 5) := by kernel_rfl
@[simp] theorem f6m : szT Try.prog 55 = (Option.some 2) := by kernel_rfl
@[simp] theorem f6f : szT Try.prog 79 = (Option.some 8) := by kernel_rfl
@[simp] theorem e5t : a6d Try.prog 103 = (Option.some ((Go.FM.FV.str (ByteArray.mk (Array.mk []))) :: ((Go.FM.FV.str (ByteArray.mk (Array.mk []))) :: []))) := by kernel_rfl
@[simp] theorem e5s : a6d Try.prog 106 = (Option.some ((Go.FM.FV.int Go.IntKind.i64 0) :: ((Go.FM.FV.int Go.IntKind.i64 0) :: ((Go.FM.FV.int Go.IntKind.i64 0) :: [])))) := by kernel_rfl
@[simp] theorem e5r : a6d Try.prog 112 = (Option.some ((Go.FM.FV.str (ByteArray.mk (Array.mk []))) :: ((Go.FM.FV.str (ByteArray.mk (Array.mk []))) :: ((Go.FM.FV.str (ByteArray.mk (Array.mk []))) :: ((Go.FM.FV.str (ByteArray.mk (Array.mk []))) :: ((Go.FM.FV.str (ByteArray.mk (Array.mk []))) :: ((Go.FM.FV.str (ByteArray.mk (Array.mk []))) :: ((Go.FM.FV.str (ByteArray.mk (Array.mk []))) :: ((Go.FM.FV.str (ByteArray.mk (Array.mk []))) :: ((Go.FM.FV.str (ByteArray.mk (Array.mk []))) :: ((Go.FM.FV.str (ByteArray.mk (Array.mk []))) :: ((Go.FM.FV.str (ByteArray.mk (Array.mk []))) :: ((Go.FM.FV.str (ByteArray.mk (Array.mk []))) :: ((Go.FM.FV.str (ByteArray.mk (Array.mk []))) :: ((Go.FM.FV.str (ByteArray.mk (Array.mk []))) :: ((Go.FM.FV.str (ByteArray.mk (Array.mk []))) :: ((Go.FM.FV.str (ByteArray.mk (Array.mk []))) :: ((Go.FM.FV.str (ByteArray.mk (Array.mk []))) :: ((Go.FM.FV.str (ByteArray.mk (Array.mk []))) :: ((Go.FM.FV.str (ByteArray.mk (Array.mk []))) :: ((Go.FM.FV.str (ByteArray.mk (Array.mk []))) :: ((Go.FM.FV.str (ByteArray.mk (Array.mk []))) :: ((Go.FM.FV.str (ByteArray.mk (Array.mk []))) :: ((Go.FM.FV.str (ByteArray.mk (Array.mk []))) :: ((Go.FM.FV.str (ByteArray.mk (Array.mk []))) :: ((Go.FM.FV.str (ByteArray.mk (Array.mk []))) :: ((Go.FM.FV.str (ByteArray.mk (Array.mk []))) :: ((Go.FM.FV.str (ByteArray.mk (Array.mk []))) :: ((Go.FM.FV.str (ByteArray.mk (Array.mk []))) :: ((Go.FM.FV.str (ByteArray.mk (Array.mk []))) :: ((Go.FM.FV.str (ByteArray.mk (Array.mk []))) :: ((Go.FM.FV.str (ByteArray.mk (Array.mk []))) :: ((Go.FM.FV.str (ByteArray.mk (Array.mk []))) :: ((Go.FM.FV.str (ByteArray.mk (Array.mk []))) :: ((Go.FM.FV.str (ByteArray.mk (Array.mk []))) :: ((Go.FM.FV.str (ByteArray.mk (Array.mk []))) :: ((Go.FM.FV.str (ByteArray.mk (Array.mk []))) :: ((Go.FM.FV.str (ByteArray.mk (Array.mk []))) :: ((Go.FM.FV.str (ByteArray.mk (Array.mk []))) :: ((Go.FM.FV.str (ByteArray.mk (Array.mk []))) :: ((Go.FM.FV.str (ByteArray.mk (Array.mk []))) :: ((Go.FM.FV.str (ByteArray.mk (Array.mk []))) :: ((Go.FM.FV.str (ByteArray.mk (Array.mk []))) :: ((Go.FM.FV.str (ByteArray.mk (Array.mk []))) :: ((Go.FM.FV.str (ByteArray.mk (Array.mk []))) :: ((Go.FM.FV.str (ByteArray.mk (Array.mk []))) :: ((Go.FM.FV.str (ByteArray.mk (Array.mk []))) :: ((Go.FM.FV.str (ByteArray.mk (Array.mk []))) :: ((Go.FM.FV.str (ByteArray.mk (Array.mk []))) :: ((Go.FM.FV.str (ByteArray.mk (Array.mk []))) :: ((Go.FM.FV.str (ByteArray.mk (Array.mk []))) :: ((Go.FM.FV.str (ByteArray.mk (Array.mk []))) :: ((Go.FM.FV.str (ByteArray.mk (Array.mk []))) :: ((Go.FM.FV.str (ByteArray.mk (Array.mk []))) :: ((Go.FM.FV.str (ByteArray.mk (Array.mk []))) :: ((Go.FM.FV.str (ByteArray.mk (Array.mk []))) :: ((Go.FM.FV.str (ByteArray.mk (Array.mk []))) :: ((Go.FM.FV.str (ByteArray.mk (Array.mk []))) :: ((Go.FM.FV.str (ByteArray.mk (Array.mk []))) :: ((Go.FM.FV.str (ByteArray.mk (Array.mk []))) :: ((Go.FM.FV.str (ByteArray.mk (Array.mk []))) :: ((Go.FM.FV.str (ByteArray.mk (Array.mk []))) :: ((Go.FM.FV.str (ByteArray.mk (Array.mk []))) :: ((Go.FM.FV.str (ByteArray.mk (Array.mk []))) :: ((Go.FM.FV.str (ByteArray.mk (Array.mk []))) :: ((Go.FM.FV.str (ByteArray.mk (Array.mk []))) :: ((Go.FM.FV.str (ByteArray.mk (Array.mk []))) :: ((Go.FM.FV.str (ByteArray.mk (Array.mk []))) :: ((Go.FM.FV.str (ByteArray.mk (Array.mk []))) :: ((Go.FM.FV.str (ByteArray.mk (Array.mk []))) :: ((Go.FM.FV.str (ByteArray.mk (Array.mk []))) :: ((Go.FM.FV.str (ByteArray.mk (Array.mk []))) :: ((Go.FM.FV.str (ByteArray.mk (Array.mk []))) :: ((Go.FM.FV.str (ByteArray.mk (Array.mk []))) :: ((Go.FM.FV.str (ByteArray.mk (Array.mk []))) :: ((Go.FM.FV.str (ByteArray.mk (Array.mk []))) :: ((Go.FM.FV.str (ByteArray.mk (Array.mk []))) :: ((Go.FM.FV.str (ByteArray.mk (Array.mk []))) :: ((Go.FM.FV.str (ByteArray.mk (Array.mk []))) :: ((Go.FM.FV.str (ByteArray.mk (Array.mk []))) :: ((Go.FM.FV.str (ByteArray.mk (Array.mk []))) :: ((Go.FM.FV.str (ByteArray.mk (Array.mk []))) :: ((Go.FM.FV.str (ByteArray.mk (Array.mk []))) :: ((Go.FM.FV.str (ByteArray.mk (Array.mk []))) :: ((Go.FM.FV.str (ByteArray.mk (Array.mk []))) :: ((Go.FM.FV.str (ByteArray.mk (Array.mk []))) :: ((Go.FM.FV.str (ByteArray.mk (Array.mk []))) :: ((Go.FM.FV.str (ByteArray.mk (Array.mk []))) :: ((Go.FM.FV.str (ByteArray.mk (Array.mk []))) :: ((Go.FM.FV.str (ByteArray.mk (Array.mk []))) :: ((Go.FM.FV.str (ByteArray.mk (Array.mk []))) :: ((Go.FM.FV.str (ByteArray.mk (Array.mk []))) :: ((Go.FM.FV.str (ByteArray.mk (Array.mk []))) :: ((Go.FM.FV.str (ByteArray.mk (Array.mk []))) :: ((Go.FM.FV.str (ByteArray.mk (Array.mk []))) :: ((Go.FM.FV.str (ByteArray.mk (Array.mk []))) :: ((Go.FM.FV.str (ByteArray.mk (Array.mk []))) :: ((Go.FM.FV.str (ByteArray.mk (Array.mk []))) :: ((Go.FM.FV.str (ByteArray.mk (Array.mk []))) :: ((Go.FM.FV.str (ByteArray.mk (Array.mk []))) :: ((Go.FM.FV.str (ByteArray.mk (Array.mk []))) :: ((Go.FM.FV.str (ByteArray.mk (Array.mk []))) :: ((Go.FM.FV.str (ByteArray.mk (Array.mk []))) :: ((Go.FM.FV.str (ByteArray.mk (Array.mk []))) :: ((Go.FM.FV.str (ByteArray.mk (Array.mk []))) :: ((Go.FM.FV.str (ByteArray.mk (Array.mk []))) :: ((Go.FM.FV.str (ByteArray.mk (Array.mk []))) :: []))))))))))))))))))))))))))))))))))))))))))))))))))))))))))))))))))))))))))))))))))))))))))))))))))))))))))) := by kernel_rfl
@[simp] theorem e8h : a6d Try.prog 26 = (Option.some (Go.FM.FV.nils :: (Go.FM.FV.nils :: (Go.FM.FV.nils :: ((Go.FM.FV.int Go.IntKind.i64 0) :: []))))) := by kernel_rfl
@[simp] theorem f1n : a6d Try.prog 3 = (Option.some ((Go.FM.FV.int Go.IntKind.i64 0) :: [])) := by kernel_rfl
@[simp] theorem e8e : a6d Try.prog 45 = (Option.some ((Go.FM.FV.str (ByteArray.mk (Array.mk []))) :: ((Go.FM.FV.int Go.IntKind.i64 0) :: ((Go.FM.FV.int Go.IntKind.i64 0) :: (Go.FM.FV.nils :: []))))) := by kernel_rfl
@[simp] theorem e8d : a6d Try.prog 47 = (Option.some ((Go.FM.FV.int Go.IntKind.i64 0) :: ((Go.FM.FV.int Go.IntKind.i64 0) :: ((Go.FM.FV.int Go.IntKind.i64 0) :: ((Go.FM.FV.int Go.IntKind.i64 0) :: ((Go.FM.FV.int Go.IntKind.i64 0) :: [])))))) := by kernel_rfl
@[simp] theorem e8f : a6d Try.prog 41 = (Option.some (Go.FM.FV.nils :: [])) := by kernel_rfl
@[simp] theorem e8b : a6d Try.prog 55 = (Option.some ((Go.FM.FV.str (ByteArray.mk (Array.mk []))) :: ((Go.FM.FV.int Go.IntKind.i64 0) :: []))) := by kernel_rfl
@[simp] theorem e7x : a6d Try.prog 79 = (Option.some (Go.FM.FV.nils :: (Go.FM.FV.nils :: (Go.FM.FV.nils :: ((Go.FM.FV.int Go.IntKind.i64 0) :: ((Go.FM.FV.str (ByteArray.mk (Array.mk []))) :: ((Go.FM.FV.int Go.IntKind.i64 0) :: ((Go.FM.FV.int Go.IntKind.i64 0) :: (Go.FM.FV.nils :: []))))))))) := by kernel_rfl
@[simp] theorem f1l : a6d Try.prog 9 = (Option.some ((Go.FM.FV.str (ByteArray.mk (Array.mk []))) :: [])) := by kernel_rfl
def a2j (n : Int) : List FV := [.int .i64 n]
def ints (L : List (Int)) : List (List FV) := L.map a2j
theorem a0f (L : List (Int)) : (ints L).length = L.length := by simp [ints]
theorem a6x {L : List (Int)} {i : Nat} (h : i < (ints L).length) : (ints L)[i] = a2j (L[i]'(by rwa [a0f] at h)) := by simp [ints]
theorem a0m (a b : List (Int)) : ints (a ++ b) = ints a ++ ints b := by simp [ints]
theorem a1b (a : Int) : ints [a] = [a2j a] := rfl
theorem a1c : ints [] = [] := rfl
theorem a4e (n : Nat) (l : List (Int)) : (ints l).take n = ints (l.take n) := by simp [ints, List.map_take]
theorem a0c (L : List (Int)) : nlss (ints L) = true := by
 induction L with
 | nil => rfl
 | cons r rs ih => simpa [ints, nlss, nls, nl, a2j] using ih
theorem a2z (L : List (Int)) : (ints L).flatten.all FV.cellV = true := by
 induction L with
 | nil => rfl
 | cons r rs ih => simp [ints, FV.cellV, a2j]
def _root_.Go.Gv.Ins.row (e : Ins) : List FV := [.int .i64 e.op, .int .i64 e.a, .int .i64 e.b, .int .i64 e.c, .int .i64 e.d]
def inss (L : List (Ins)) : List (List FV) := L.map Ins.row
theorem a0h (L : List (Ins)) : (inss L).length = L.length := by simp [inss]
theorem a2r {L : List (Ins)} {i : Nat} (h : i < (inss L).length) : (inss L)[i] = Ins.row (L[i]'(by rwa [a0h] at h)) := by simp [inss]
theorem a0n (a b : List (Ins)) : inss (a ++ b) = inss a ++ inss b := by simp [inss]
theorem a1g (a : Ins) : inss [a] = [Ins.row a] := rfl
theorem a1h : inss [] = [] := rfl
theorem d2u (n : Nat) (l : List (Ins)) : (inss l).take n = inss (l.take n) := by simp [inss, List.map_take]
theorem a0b (L : List (Ins)) : nlss (inss L) = true := by
 induction L with
 | nil => rfl
 | cons r rs ih => simpa [inss, nlss, nls, nl, Ins.row] using ih
def _root_.Go.Gv.FnD.row (e : FnD) : List FV := [.str e.name, .int .i64 e.params, .int .i64 e.regs, .list 5 (inss e.code)]
def fns (L : List (FnD)) : List (List FV) := L.map FnD.row
theorem a0j (L : List (FnD)) : (fns L).length = L.length := by simp [fns]
theorem a3c {L : List (FnD)} {i : Nat} (h : i < (fns L).length) : (fns L)[i] = FnD.row (L[i]'(by rwa [a0j] at h)) := by simp [fns]
theorem a0v (a b : List (FnD)) : fns (a ++ b) = fns a ++ fns b := by simp [fns]
theorem a1r (a : FnD) : fns [a] = [FnD.row a] := rfl
theorem a1s : fns [] = [] := rfl
theorem d8s (n : Nat) (l : List (FnD)) : (fns l).take n = fns (l.take n) := by simp [fns, List.map_take]
theorem a0e (L : List (FnD)) : nlss (fns L) = true := by
 induction L with
 | nil => rfl
 | cons r rs ih => simpa [fns, nlss, nls, nl, FnD.row, a0b] using ih
def _root_.Go.Gv.Gb.row (e : Gb) : List FV := [.str e.name, .int .i64 e.kind]
def gbs (L : List (Gb)) : List (List FV) := L.map Gb.row
theorem a0o (L : List (Gb)) : (gbs L).length = L.length := by simp [gbs]
theorem b0s {L : List (Gb)} {i : Nat} (h : i < (gbs L).length) : (gbs L)[i] = Gb.row (L[i]'(by rwa [a0o] at h)) := by simp [gbs]
theorem a0u (a b : List (Gb)) : gbs (a ++ b) = gbs a ++ gbs b := by simp [gbs]
theorem a1p (a : Gb) : gbs [a] = [Gb.row a] := rfl
theorem a1q : gbs [] = [] := rfl
theorem d8n (n : Nat) (l : List (Gb)) : (gbs l).take n = gbs (l.take n) := by simp [gbs, List.map_take]
theorem a0i (L : List (Gb)) : nlss (gbs L) = true := by
 induction L with
 | nil => rfl
 | cons r rs ih => simpa [gbs, nlss, nls, nl, Gb.row] using ih
def a2i (l : List Int) : List FV := [.list 1 (ints l)]
def lays (L : List (List Int)) : List (List FV) := L.map a2i
theorem a0g (L : List (List Int)) : (lays L).length = L.length := by simp [lays]
theorem a2x {L : List (List Int)} {i : Nat} (h : i < (lays L).length) : (lays L)[i] = a2i (L[i]'(by rwa [a0g] at h)) := by simp [lays]
theorem a0l (a b : List (List Int)) : lays (a ++ b) = lays a ++ lays b := by simp [lays]
theorem a1e (a : List Int) : lays [a] = [a2i a] := rfl
theorem a1f : lays [] = [] := rfl
theorem a9u (n : Nat) (l : List (List Int)) : (lays l).take n = lays (l.take n) := by simp [lays, List.map_take]
theorem a0a (L : List (List Int)) : nlss (lays L) = true := by
 induction L with
 | nil => rfl
 | cons r rs ih => simpa [lays, nlss, nls, nl, a2i, a0c] using ih
theorem c2w (L : List (List Int)) : (lays L).flatten.all FV.cellV = true := by
 induction L with
 | nil => rfl
 | cons r rs ih => simp [lays, FV.cellV, a2i]
def _root_.Go.Gv.Pg.row (p : Pg) : List FV := [.list 4 (fns p.funcs), .list 2 (gbs p.globals), .list 1 (lays p.layouts), .int .i64 p.main]
theorem wl (n : Nat) (h : n <= 1000000000) : IntKind.wrap .i64 ((n : Int) - 1) = (n : Int) - 1 := by rw [IntKind.wrap_i64]; omega
theorem wli {i : Nat} {m : Nat} (h : i < m) (hm : m <= 1000000000) : IntKind.wrap .i64 ((i : Int) + 1) = ((i + 1 : Nat) : Int) := by rw [IntKind.wrap_i64]; omega
def wdI : Int -> ByteArray
 | 1 => ⟨⟨[99, 111, 110, 115, 116]⟩⟩
 | 2 => ⟨⟨[110, 105, 108]⟩⟩
 | 3 => ⟨⟨[109, 111, 118, 101]⟩⟩
 | 4 => ⟨⟨[97, 100, 100]⟩⟩
 | 5 => ⟨⟨[115, 117, 98]⟩⟩
 | 6 => ⟨⟨[109, 117, 108]⟩⟩
 | 7 => ⟨⟨[100, 105, 118]⟩⟩
 | 8 => ⟨⟨[114, 101, 109]⟩⟩
 | 9 => ⟨⟨[110, 101, 103]⟩⟩
 | 10 => ⟨⟨[110, 111, 116]⟩⟩
 | 11 => ⟨⟨[101, 113]⟩⟩
 | 12 => ⟨⟨[110, 101]⟩⟩
 | 13 => ⟨⟨[108, 116]⟩⟩
 | 14 => ⟨⟨[108, 101]⟩⟩
 | 15 => ⟨⟨[108, 101, 110]⟩⟩
 | 16 => ⟨⟨[106, 117, 109, 112]⟩⟩
 | 17 => ⟨⟨[106, 117, 109, 112, 122]⟩⟩
 | 18 => ⟨⟨[103, 108, 111, 98, 97, 108]⟩⟩
 | 19 => ⟨⟨[102, 105, 101, 108, 100]⟩⟩
 | 20 => ⟨⟨[105, 110, 100, 101, 120]⟩⟩
 | 21 => ⟨⟨[110, 101, 119]⟩⟩
 | 22 => ⟨⟨[115, 108, 105, 99, 101]⟩⟩
 | 23 => ⟨⟨[99, 104, 97, 110]⟩⟩
 | 24 => ⟨⟨[99, 108, 111, 115, 117, 114, 101]⟩⟩
 | 25 => ⟨⟨[99, 97, 112]⟩⟩
 | 26 => ⟨⟨[99, 97, 108, 108]⟩⟩
 | 27 => ⟨⟨[99, 97, 108, 108, 99]⟩⟩
 | 28 => ⟨⟨[100, 101, 102, 101, 114]⟩⟩
 | 29 => ⟨⟨[100, 101, 102, 101, 114, 99]⟩⟩
 | 30 => ⟨⟨[114, 101, 116, 117, 114, 110]⟩⟩
 | 31 => ⟨⟨[103, 111]⟩⟩
 | 32 => ⟨⟨[103, 111, 99]⟩⟩
 | 33 => ⟨⟨[108, 111, 97, 100]⟩⟩
 | 34 => ⟨⟨[115, 116, 111, 114, 101]⟩⟩
 | 35 => ⟨⟨[97, 108, 111, 97, 100]⟩⟩
 | 36 => ⟨⟨[97, 115, 116, 111, 114, 101]⟩⟩
 | 37 => ⟨⟨[97, 97, 100, 100]⟩⟩
 | 38 => ⟨⟨[97, 99, 97, 115]⟩⟩
 | 39 => ⟨⟨[108, 111, 99, 107]⟩⟩
 | 40 => ⟨⟨[117, 110, 108, 111, 99, 107]⟩⟩
 | 41 => ⟨⟨[114, 108, 111, 99, 107]⟩⟩
 | 42 => ⟨⟨[114, 117, 110, 108, 111, 99, 107]⟩⟩
 | 43 => ⟨⟨[103, 114, 111, 117, 112]⟩⟩
 | 44 => ⟨⟨[119, 97, 105, 116]⟩⟩
 | 45 => ⟨⟨[111, 110, 99, 101]⟩⟩
 | 46 => ⟨⟨[111, 110, 99, 101, 101, 110, 100]⟩⟩
 | 47 => ⟨⟨[115, 101, 110, 100]⟩⟩
 | 48 => ⟨⟨[114, 101, 99, 118]⟩⟩
 | 49 => ⟨⟨[99, 108, 111, 115, 101]⟩⟩
 | 50 => ⟨⟨[115, 101, 108, 101, 99, 116]⟩⟩
 | 51 => ⟨⟨[99, 97, 115, 101]⟩⟩
 | 52 => ⟨⟨[112, 114, 105, 110, 116]⟩⟩
 | _ => ⟨⟨[]⟩⟩
def rlI : Int -> ByteArray
 | 1 => ⟨⟨[100, 105, 45]⟩⟩
 | 2 => ⟨⟨[100, 45, 45]⟩⟩
 | 3 => ⟨⟨[100, 115, 45]⟩⟩
 | 4 => ⟨⟨[100, 115, 115]⟩⟩
 | 5 => ⟨⟨[100, 115, 115]⟩⟩
 | 6 => ⟨⟨[100, 115, 115]⟩⟩
 | 7 => ⟨⟨[100, 115, 115]⟩⟩
 | 8 => ⟨⟨[100, 115, 115]⟩⟩
 | 9 => ⟨⟨[100, 115, 45]⟩⟩
 | 10 => ⟨⟨[100, 115, 45]⟩⟩
 | 11 => ⟨⟨[100, 115, 115]⟩⟩
 | 12 => ⟨⟨[100, 115, 115]⟩⟩
 | 13 => ⟨⟨[100, 115, 115]⟩⟩
 | 14 => ⟨⟨[100, 115, 115]⟩⟩
 | 15 => ⟨⟨[100, 115, 45]⟩⟩
 | 16 => ⟨⟨[45, 45, 116]⟩⟩
 | 17 => ⟨⟨[115, 45, 116]⟩⟩
 | 18 => ⟨⟨[100, 103, 45]⟩⟩
 | 19 => ⟨⟨[100, 115, 110]⟩⟩
 | 20 => ⟨⟨[100, 115, 115]⟩⟩
 | 21 => ⟨⟨[100, 108, 45]⟩⟩
 | 22 => ⟨⟨[100, 115, 45]⟩⟩
 | 23 => ⟨⟨[100, 115, 45]⟩⟩
 | 24 => ⟨⟨[100, 99, 107]⟩⟩
 | 25 => ⟨⟨[100, 112, 45]⟩⟩
 | 26 => ⟨⟨[68, 102, 97]⟩⟩
 | 27 => ⟨⟨[115, 45, 45]⟩⟩
 | 28 => ⟨⟨[45, 102, 97]⟩⟩
 | 29 => ⟨⟨[115, 45, 45]⟩⟩
 | 30 => ⟨⟨[83, 45, 45]⟩⟩
 | 31 => ⟨⟨[45, 102, 97]⟩⟩
 | 32 => ⟨⟨[115, 45, 45]⟩⟩
 | 33 => ⟨⟨[100, 115, 45]⟩⟩
 | 34 => ⟨⟨[115, 115, 45]⟩⟩
 | 35 => ⟨⟨[100, 115, 45]⟩⟩
 | 36 => ⟨⟨[115, 115, 45]⟩⟩
 | 37 => ⟨⟨[100, 115, 115]⟩⟩
 | 38 => ⟨⟨[100, 115, 115]⟩⟩
 | 39 => ⟨⟨[115, 45, 45]⟩⟩
 | 40 => ⟨⟨[115, 45, 45]⟩⟩
 | 41 => ⟨⟨[115, 45, 45]⟩⟩
 | 42 => ⟨⟨[115, 45, 45]⟩⟩
 | 43 => ⟨⟨[115, 115, 45]⟩⟩
 | 44 => ⟨⟨[115, 45, 45]⟩⟩
 | 45 => ⟨⟨[115, 45, 116]⟩⟩
 | 46 => ⟨⟨[115, 45, 45]⟩⟩
 | 47 => ⟨⟨[115, 115, 45]⟩⟩
 | 48 => ⟨⟨[68, 115, 68]⟩⟩
 | 49 => ⟨⟨[115, 45, 45]⟩⟩
 | 50 => ⟨⟨[100, 120, 98]⟩⟩
 | 51 => ⟨⟨[115, 98, 118]⟩⟩
 | 52 => ⟨⟨[115, 45, 45]⟩⟩
 | _ => ⟨⟨[]⟩⟩
def rlR : Int -> ByteArray
 | 1 => ⟨⟨[100, 105, 45]⟩⟩
 | 2 => ⟨⟨[100, 45, 45]⟩⟩
 | 3 => ⟨⟨[100, 114, 45]⟩⟩
 | 4 => ⟨⟨[100, 114, 114]⟩⟩
 | 5 => ⟨⟨[100, 114, 114]⟩⟩
 | 6 => ⟨⟨[100, 114, 114]⟩⟩
 | 7 => ⟨⟨[100, 114, 114]⟩⟩
 | 8 => ⟨⟨[100, 114, 114]⟩⟩
 | 9 => ⟨⟨[100, 114, 45]⟩⟩
 | 10 => ⟨⟨[100, 114, 45]⟩⟩
 | 11 => ⟨⟨[100, 114, 114]⟩⟩
 | 12 => ⟨⟨[100, 114, 114]⟩⟩
 | 13 => ⟨⟨[100, 114, 114]⟩⟩
 | 14 => ⟨⟨[100, 114, 114]⟩⟩
 | 15 => ⟨⟨[100, 114, 45]⟩⟩
 | 16 => ⟨⟨[45, 45, 106]⟩⟩
 | 17 => ⟨⟨[114, 45, 106]⟩⟩
 | 18 => ⟨⟨[100, 103, 45]⟩⟩
 | 19 => ⟨⟨[100, 114, 110]⟩⟩
 | 20 => ⟨⟨[100, 114, 114]⟩⟩
 | 21 => ⟨⟨[100, 108, 45]⟩⟩
 | 22 => ⟨⟨[100, 114, 45]⟩⟩
 | 23 => ⟨⟨[100, 114, 45]⟩⟩
 | 24 => ⟨⟨[100, 49, 110]⟩⟩
 | 25 => ⟨⟨[100, 110, 45]⟩⟩
 | 26 => ⟨⟨[68, 102, 97]⟩⟩
 | 27 => ⟨⟨[114, 45, 45]⟩⟩
 | 28 => ⟨⟨[45, 102, 97]⟩⟩
 | 29 => ⟨⟨[114, 45, 45]⟩⟩
 | 30 => ⟨⟨[82, 45, 45]⟩⟩
 | 31 => ⟨⟨[45, 102, 97]⟩⟩
 | 32 => ⟨⟨[114, 45, 45]⟩⟩
 | 33 => ⟨⟨[100, 114, 45]⟩⟩
 | 34 => ⟨⟨[114, 114, 45]⟩⟩
 | 35 => ⟨⟨[100, 114, 45]⟩⟩
 | 36 => ⟨⟨[114, 114, 45]⟩⟩
 | 37 => ⟨⟨[100, 114, 114]⟩⟩
 | 38 => ⟨⟨[100, 114, 114]⟩⟩
 | 39 => ⟨⟨[114, 45, 45]⟩⟩
 | 40 => ⟨⟨[114, 45, 45]⟩⟩
 | 41 => ⟨⟨[114, 45, 45]⟩⟩
 | 42 => ⟨⟨[114, 45, 45]⟩⟩
 | 43 => ⟨⟨[114, 114, 45]⟩⟩
 | 44 => ⟨⟨[114, 45, 45]⟩⟩
 | 45 => ⟨⟨[114, 45, 106]⟩⟩
 | 46 => ⟨⟨[114, 45, 45]⟩⟩
 | 47 => ⟨⟨[114, 114, 45]⟩⟩
 | 48 => ⟨⟨[68, 114, 68]⟩⟩
 | 49 => ⟨⟨[114, 45, 45]⟩⟩
 | 50 => ⟨⟨[100, 115, 98]⟩⟩
 | 51 => ⟨⟨[114, 98, 99]⟩⟩
 | 52 => ⟨⟨[114, 45, 45]⟩⟩
 | _ => ⟨⟨[]⟩⟩
theorem c34 (k : Int) : PC Try.prog Gl 40 [.int .i64 k] (.bool (a5b k)) := by
 refine b0o (res := [.tmp 2]) 3 9 [] (fun d ix => d :: ix) (fn := Try.f40) (by kernel_rfl) (by rfl) (by rfl) (by rfl) (by simp) (by decide) ?_
 repeat' first
  | with_reducible refine stp ?_
  | (with_reducible refine stpK ?_; intro K hK)
  | (with_reducible refine stpC ?_; intro T E hT hE)
  | (with_reducible refine stp2 ?_ ?_ <;> intro h)
  | with_reducible first | refine a0q rfl ?_ | refine a0t rfl (by decide) a0s ?_ | refine a0t rfl (by decide) (a0r (by simp [upd, noH, ext, a5v, a4o, *])) ?_ | refine a1v (by decide) (by kernel_rfl) ?_ | refine a0x (by decide) ?_
  | (with_reducible refine Kont.go hK ?_; clear hK K)
  | ((with_reducible first | refine KT.go hT ?_ | refine KT.go hE ?_); clear hT hE T E)
  | simp [*, -List.all_flatten, -List.all_eq_true, DEFO]
 all_goals (simp_all [a5b])
theorem c109 (p : Pg) (f : FnD) (x : Ins) (role v : Int) (hc : f.code.length <= 2000000) (hf : p.funcs.length <= 2000000) (hg : p.globals.length <= 2000000) (hl : p.layouts.length <= 2000000) : PC Try.prog Gl 67 [.agg [.list 4 (fns p.funcs), .list 2 (gbs p.globals), .list 1 (lays p.layouts), .int .i64 p.main, .str f.name, .int .i64 f.params, .int .i64 f.regs, .list 5 (inss f.code)], .agg [.int .i64 x.op, .int .i64 x.a, .int .i64 x.b, .int .i64 x.c, .int .i64 x.d], .int .u8 role, .int .i64 v] (.bool (opI p f x role v)) := by
 have w1 := wl f.code.length (by omega); have w2 := wl p.funcs.length (by omega); have w3 := wl p.globals.length (by omega); have w4 := wl p.layouts.length (by omega)
 refine b0o (res := [.tmp 8]) 9 181 [9] (fun d ix => d :: ix) (fn := Try.f67) (by kernel_rfl) (by rfl) (by rfl) (by rfl) (by simp) (by decide) ?_
 repeat' first
  | with_reducible refine stp ?_
  | (with_reducible refine stpK ?_; intro K hK)
  | (with_reducible refine stpC ?_; intro T E hT hE)
  | (with_reducible refine stp2 ?_ ?_ <;> intro h)
  | with_reducible first | refine a0p (id := 15) 31 a0k (by kernel_rfl) fun K hK => ?_ | refine a0q rfl ?_ | refine a1n (c31 _ _ _) (by simp [nls, nl, *, a0b, a0e, a0i, a0a, a0c]) ?_ | refine hpc (c31 _ _ _) (by simp [nls, nl, *, a0b, a0e, a0i, a0a, a0c]) ?_ | refine a0t rfl (by decide) a0s ?_ | refine a0t rfl (by decide) (a0r (by simp [upd, noH, ext, a5v, a4o, *])) ?_ | refine a1v (by decide) (by kernel_rfl) ?_ | refine a0x (by decide) ?_
  | (with_reducible refine Kont.go hK ?_; clear hK K)
  | ((with_reducible first | refine KT.go hT ?_ | refine KT.go hE ?_); clear hT hE T E)
  | simp [*, -List.all_flatten, -List.all_eq_true, DEFO, -Bool.decide_and, a0f, a0h, a0j, a0o, a0g, a0c, a0b, a0e, a0i, a0a, a6x, a2r, a3c, b0s, a2x, a2j, Ins.row, FnD.row, Gb.row, a2i, Int.le_sub_one_iff]
 all_goals first
  | (simp_all [opI, btw, opAt, a5f, Int.le_sub_one_iff]; done)
  | (subst_vars; rw [<- Bool.not_eq_true]; intro hh; simp [opI, btw, W, *] at hh <;> omega)
  | (rw [<- Bool.not_eq_true]; intro hh; simp [opI, btw, W, *] at hh <;> omega)
  | trace_state
end Go.He
namespace Go.He
open Go Go.RowKit Go.Proofs Go.Shelf Go.Sort
set_option maxHeartbeats 40000000
set_option maxRecDepth 100000
abbrev srt (ss : List (List UInt8)) : List (List UInt8) := ss.mergeSort fun x y => decide (x <= y)
def toB (l : List (List UInt8)) : List ByteArray := l.map fun x => ⟨x.toArray⟩
theorem c3q (ss : List (List UInt8)) : (srt ss).length = ss.length := List.length_mergeSort ss
theorem e0m {w : World} {g : Nat} {l : List (List UInt8)} (h : Holds encStr w g 0 l.toArray) : ∀ j, j < (toB l).length -> w.cell? ⟨g, 0 + j, none⟩ = some (.string ((toB l).getD j ByteArray.empty)) := by
 intro j hj
 have hj' : j < l.length := by simpa [toB] using hj
 rw [(h j (by simpa using hj')).1]
 have : l.toArray[j]! = l[j] := by simp [getElem!_pos, hj']
 rw [this]
 simp [toB, List.getD_eq_getElem?_getD, List.getElem?_eq_getElem hj', encStr]
theorem b5j (l : List (List UInt8)) (n : Nat) (hn : l.length = n) : Lib.containsS ((toB l).take n) ⟨#[]⟩ = decide ([] ∈ l) := by
 rw [Bool.eq_iff_iff, Lib.containsS_iff, List.take_of_length_le (by simp [toB, hn])]
 simp only [toB, List.mem_map, decide_eq_true_eq]
 constructor
 . rintro ⟨x, hx, h⟩
   have : x = [] := by simpa using congrArg (fun b : ByteArray => b.data.toList) h
   rwa [this] at hx
 . intro h; exact ⟨[], h, rfl⟩
theorem e3c {ss : List (List UInt8)} (h : [] ∈ srt ss) : Gv.uniq ss = false := by
 have := (List.mergeSort_perm ss (fun x y => decide (x <= y))).mem_iff.mp h
 simp [Gv.uniq, this]
theorem d6a {ss : List (List UInt8)} (h : ¬ [] ∈ srt ss) {n : Nat} (hn : ss.length = n) : decide (((Lib.compact (srt ss)).length : Int) = (n : Int)) = Gv.uniq ss := by
 have h' : ¬ [] ∈ ss := fun e => h ((List.mergeSort_perm ss (fun x y => decide (x <= y))).mem_iff.mpr e)
 rw [<- Gv.e3d]
 simp [h', hn, Int.ofNat_inj]
def UX (w w1 : World) (g cap n : Nat) (ss : List (List UInt8)) : Prop :=
 Go.RowKit.Below w.heap.size w w1 /\ w.heap.size <= g /\ g < w1.heap.size /\ n <= cap /\ ss.length = n /\ Holds encStr w1 g 0 ss.toArray
theorem b6m (A : Option Addr) (n c : Nat) (ss : List (List UInt8)) (w : World) (hn : n <= 4611686018427387903)
 (hclone : Calls Try.prog 55 #[.slice A n c] w fun e w' => ∃ v', e = .returned v' /\ w'.ownsRow w.heap.size 9 1 v' n (ss.map encStr) /\ v' ≠ .slice none 0 0 /\ Go.RowKit.Below w.heap.size w w') :
 Calls Try.prog 42 #[.slice A n c] w fun e w' => e = .returned (.bool (Gv.uniq ss)) /\ Go.RowKit.Below w.heap.size w w' := by
 by_cases hm : [] ∈ srt ss
 . have hu := e3c hm
   go_enter Try.func42, Try.ntmps42
   go_wp2_with (first
    | (go_at_call 55; refine hclone.mono ?_; rintro e w1 ⟨v1, rfl, hown, hnn, hbel⟩
       obtain ⟨g, cap, rfl, hbg, hgl, hncap, hcm, hlen, hH⟩ := Lib.holds_of_ownsRow hown hnn
       have hsort : Calls Try.prog 56 _ _ _ := Any.slices_Sort_string uL2 g 0 cap ss w1 hH hgl (by omega)
       rw [hlen] at hsort
       have X : Aside (UX w w1 g cap n ss) := ⟨hbel, hbg, hgl, hncap, hlen, hH⟩
       clear hown hbel hH hnn)
    | (go_at_call 56; refine hsort.mono ?_; rintro e w2 ⟨rfl, nn, os, rfl⟩
       have hl2 : (srt ss).length = n := by rw [c3q]; exact X.out.2.2.2.2.1
       have hH2 : Holds encStr (grow (putRow encStr (Sort.ahead w1 nn) g 0 (srt ss).toArray) os) g 0 (srt ss).toArray :=
        holds_grow encStr _ os g 0 _ (by simpa [putRow, mapBlock, Sort.ahead] using X.out.2.2.1) (holds_putRow encStr _ g 0 _ _ (holds_ahead encStr w1 nn g 0 _ X.out.2.2.2.2.2) (by simp))
       have hcont : Calls Try.prog 57 _ _ _ := Any.slices_Contains_string uL4 g 0 n cap (toB (srt ss)) ⟨#[]⟩ _ (by simp [toB, hl2]) (by omega) (e0m hH2)
       rw [b5j _ _ hl2, decide_eq_true hm] at hcont
       clear hH2 hsort)
    | (go_at_call 57; refine hcont.mono ?_; rintro e w3 ⟨rfl, rfl⟩))
   go_ret
   exact ⟨by rw [hu]; rfl, X.out.1.grown (grownBy_sorted _) X.out.1.size (fun j hj => by cases hj; exact X.out.2.1)⟩
 . have hu := fun (h : ss.length = n) => d6a hm h
   go_enter Try.func42, Try.ntmps42
   go_wp2_with (first
    | (go_at_call 55; refine hclone.mono ?_; rintro e w1 ⟨v1, rfl, hown, hnn, hbel⟩
       obtain ⟨g, cap, rfl, hbg, hgl, hncap, hcm, hlen, hH⟩ := Lib.holds_of_ownsRow hown hnn
       have hsort : Calls Try.prog 56 _ _ _ := Any.slices_Sort_string uL2 g 0 cap ss w1 hH hgl (by omega)
       rw [hlen] at hsort
       have X : Aside (UX w w1 g cap n ss) := ⟨hbel, hbg, hgl, hncap, hlen, hH⟩
       clear hown hbel hH hnn)
    | (go_at_call 56; refine hsort.mono ?_; rintro e w2 ⟨rfl, nn, os, rfl⟩
       have hl2 : (srt ss).length = n := by rw [c3q]; exact X.out.2.2.2.2.1
       have hH2 : Holds encStr (grow (putRow encStr (Sort.ahead w1 nn) g 0 (srt ss).toArray) os) g 0 (srt ss).toArray :=
        holds_grow encStr _ os g 0 _ (by simpa [putRow, mapBlock, Sort.ahead] using X.out.2.2.1) (holds_putRow encStr _ g 0 _ _ (holds_ahead encStr w1 nn g 0 _ X.out.2.2.2.2.2) (by simp))
       have hcont : Calls Try.prog 57 _ _ _ := Any.slices_Contains_string uL4 g 0 n cap (toB (srt ss)) ⟨#[]⟩ _ (by simp [toB, hl2]) (by omega) (e0m hH2)
       rw [b5j _ _ hl2, decide_eq_false hm] at hcont
       have hcomp : Calls Try.prog 58 _ _ _ := Any.slices_Compact_string uL3 g 0 cap (srt ss) _ hH2 (by omega) (by rw [hl2]; exact X.out.2.2.2.1)
       rw [hl2] at hcomp
       clear hH2 hsort)
    | (go_at_call 57; refine hcont.mono ?_; rintro e w3 ⟨rfl, rfl⟩)
    | (go_at_call 58; refine hcomp.mono ?_; rintro e w3 ⟨rfl, q, rfl⟩))
   go_ret
   exact ⟨by rw [<- hu X.out.2.2.2.2.1]; rfl, Lib.below_putRow (X.out.1.grown (grownBy_sorted _) X.out.1.size (fun j hj => by cases hj; exact X.out.2.1)) X.out.2.1⟩
theorem c8p (c : Nat) (w : World) : Calls Try.prog 42 #[.slice none 0 c] w fun e w' => e = .returned (.bool true) /\ w' = w := by
 have hclone : Calls Try.prog 55 #[.slice none 0 c] w _ := Any.slices_Clone_string_nil uL1 0 c w
 have hsort : Calls Try.prog 56 #[.slice none 0 0] w _ := calls_of_every_depth fun D => AnyS.slices_Sort_string_none_in uL2 D none 0 w
 have hcont : Calls Try.prog 57 #[.slice none 0 0, .string ⟨#[]⟩] w _ := Any.slices_Contains_string_empty uL4 none 0 ⟨#[]⟩ w
 have hcomp : Calls Try.prog 58 #[.slice none 0 0] w _ := Any.slices_Compact_string_empty uL3 none 0 w
 go_enter Try.func42, Try.ntmps42
 go_wp2_with (first
  | (go_at_call 55; refine hclone.mono ?_; rintro e w' ⟨rfl, rfl⟩)
  | (go_at_call 56; refine hsort.mono ?_; rintro e w' ⟨rfl, rfl⟩)
  | (go_at_call 57; refine hcont.mono ?_; rintro e w' ⟨rfl, rfl⟩)
  | (go_at_call 58; refine hcomp.mono ?_; rintro e w' ⟨rfl, rfl⟩))
 go_ret
 exact ⟨rfl, rfl⟩
end Go.He
namespace Go.Gv
open Go Go.FM
set_option maxRecDepth 100000
set_option maxHeartbeats 40000000
def LS (g : Pts -> Pts) (C : Pts -> Prop) : Prop := ∀ x z, C z -> sub x z -> sub (g x) z
theorem b6s {y z : Pts} (h : sub y z) (o : Int) : ∀ v ∈ cl y o, v ∈ cl z o := fun v hv => by
 rw [<- b7o] at hv ⊢; exact h.2 _ v hv
theorem LS.id : LS (fun x => x) (fun _ => True) := fun _ _ _ h => h
theorem LS.comp {g h : Pts -> Pts} {C D : Pts -> Prop} (hg : LS g C) (hh : LS h D) : LS (fun x => h (g x)) (fun z => C z /\ D z) := fun x z hc hs => hh _ z hc.2 (hg x z hc.1 hs)
theorem LS.congr {g g' : Pts -> Pts} {C D : Pts -> Prop} (hg : LS g C) (e : ∀ x, g' x = g x) (h : ∀ z, D z -> C z) : LS g' D := fun x z hd hs => by rw [e]; exact hg x z (h z hd) hs
theorem LS.addR {i : Nat} {a : Int} {S : Pts -> List Int} (hS : ∀ x z, sub x z -> ∀ o ∈ S x, o ∈ S z) : LS (fun x => addR x i a (S x)) (fun z => subR (rg z i a) (S z)) := fun x z hC h => by
 refine ⟨h.1, fun t o ho => ?_⟩
 cases t with
 | r g b =>
   have ho : o ∈ rg (Gv.addR x i a (S x)) g (b : Int) := ho
   show o ∈ rg z g (b : Int)
   rw [c3w] at ho
   split at ho
   . rename_i e
     have e2 : rg z g (b : Int) = rg z i a := by unfold rg; rw [e.1.1, e.2.1]
     rw [e2]
     rcases a6f.1 ho with h1 | h1
     . exact b1a h i a o h1
     . exact hC o (hS x z h o h1)
   . exact b1a h g (b : Int) o ho
 | c b => exact h.2 (.c b) o ho
theorem LS.addC {c : Int} {S : Pts -> List Int} (hS : ∀ x z, sub x z -> ∀ o ∈ S x, o ∈ S z) : LS (fun x => addC x c (S x)) (fun z => subR (cl z c) (S z)) := fun x z hC h => by
 refine ⟨h.1, fun t o ho => ?_⟩
 cases t with
 | r g b => exact h.2 (.r g b) o ho
 | c b =>
   have ho : o ∈ (x.cells.set c.toNat (a4d (cl x c) (S x))).getD (b : Int).toNat [] := ho
   show o ∈ cl z (b : Int)
   rw [a6h] at ho
   split at ho
   . rename_i e
     have e2 : cl z (b : Int) = cl z c := by unfold cl; rw [e.1]
     rw [e2]
     rcases a6f.1 ho with h1 | h1
     . exact b6s h c o h1
     . exact hC o (hS x z h o h1)
   . exact b6s h (b : Int) o ho
theorem LS.foldl {α : Type} {g : Pts -> α -> Pts} {C : Pts -> α -> Prop} {l : List α} (h : ∀ a ∈ l, LS (fun y => g y a) (fun z => C z a)) : LS (fun x => l.foldl g x) (fun z => ∀ a ∈ l, C z a) := by
 induction l with
 | nil => exact fun x z _ hs => hs
 | cons a l ih => exact fun x z hc hs => ih (fun b hb => h b (by simp [hb])) (g x a) z (fun b hb => hc b (by simp [hb])) (h a (by simp) x z (hc a (by simp)) hs)
theorem LS.at {α : Type} {g : Pts -> α -> Pts} {C : Pts -> α -> Prop} {l : Pts -> List α} (hl : ∀ x z, sub x z -> ∀ a ∈ l x, a ∈ l z) (h : ∀ a, LS (fun y => g y a) (fun z => C z a)) : LS (fun x => (l x).foldl g x) (fun z => ∀ a ∈ l z, C z a) := fun x z hc hs =>
 LS.foldl (C := C) (l := l x) (fun a _ => h a) x z (fun a ha => hc a (hl x z hs a ha)) hs
theorem b6e {l S : Pts -> List Int} (hl : ∀ x z, sub x z -> ∀ a ∈ l x, a ∈ l z) (hS : ∀ x z, sub x z -> ∀ o ∈ S x, o ∈ S z) : LS (fun x => a5g x (l x) (S x)) (fun z => ∀ c ∈ l z, subR (cl z c) (S z)) := fun x z hc hs => by
 have h1 : LS (fun y => (l x).foldl (fun y o => Gv.addC y o (S x)) y) (fun z => ∀ c ∈ l x, subR (cl z c) (S x)) := LS.foldl fun c _ => LS.addC fun _ _ _ _ h => h
 exact h1 x z (fun c hc' o ho => hc c (hl x z hs c hc') o (hS x z hs o ho)) hs
theorem a8i {i : Nat} {a : Int} : ∀ x z, sub x z -> ∀ o ∈ rg x i a, o ∈ rg z i a := fun _ _ h => b1a h i a
theorem c0h {i : Nat} {a b : Int} : LS (fun x => addR x i a (a8j x (rg x i b))) (fun z => ∀ o ∈ rg z i b, subR (rg z i a) (cl z o)) :=
 (LS.addR fun x z h o ho => by
  obtain ⟨c, hc, ho⟩ := b6d.1 ho
  exact b6d.2 ⟨c, b1a h i b c hc, b6s h c o ho⟩).congr (fun _ => rfl) fun z hz => c5q.2 hz
theorem d2i {i : Nat} {n : Ins} (k : Nat) : LS (fun x => a5w x i n k) (fun x => ∀ j : Nat, j < k -> subR (rg x n.b.toNat j) (rg x i (n.c + j))) :=
 (LS.foldl (l := List.range k) (g := fun y (j : Nat) => Gv.addR y n.b.toNat j (rg y i (n.c + j))) (C := fun x j => subR (rg x n.b.toNat j) (rg x i (n.c + j))) fun j _ => LS.addR a8i).congr (fun _ => rfl) fun x h j hj => h j (by simpa using hj)
theorem e4y {i : Nat} {n : Ins} (code : List Ins) : LS (fun x => b0c x i n code) (fun x => ∀ m ∈ code, m.op = 30 /\ 0 <= m.a -> subR (rg x i n.a) (rg x n.b.toNat m.a)) := by
 refine LS.foldl (g := fun y (m : Ins) => if m.op = 30 /\ 0 <= m.a then Gv.addR y i n.a (rg y n.b.toNat m.a) else y) (C := fun x m => m.op = 30 /\ 0 <= m.a -> subR (rg x i n.a) (rg x n.b.toNat m.a)) fun m _ => ?_
 by_cases h : m.op = 30 /\ 0 <= m.a
 . simp only [h, and_self, if_true, true_imp_iff]
   exact LS.addR a8i
 . simp only [h, if_false, false_imp_iff]
   exact LS.id
theorem e5a {i : Nat} {n : Ins} {o : Int} (k : Nat) : LS (fun x => b5o x i n o k) (fun x => ∀ j : Nat, j < k -> subR (cl x o) (rg x i (n.a + (j + 1)))) :=
 (LS.foldl (l := List.range k) (g := fun y (j : Nat) => a5g y [o] (rg y i (n.a + (j + 1)))) (C := fun x j => ∀ c ∈ [o], subR (cl x c) (rg x i (n.a + (j + 1)))) fun j _ => b6e (l := fun _ => [o]) (S := fun x => rg x i (n.a + (j + 1))) (fun _ _ _ _ h => h) a8i).congr (fun _ => rfl) fun x h j hj c hc => by
  rw [List.mem_singleton] at hc; subst hc; exact h j (by simpa using hj)
theorem e5b {p : Pg} (hp : VOk p) (i : Nat) (a : Int) : LS (fun x => a7v p x (rg x i a)) (fun x => ∀ o ∈ rg x i a, ∀ k ∈ a4x p x o, subR (rg x k.toNat 0) [o]) :=
 LS.at (C := fun x (o : Int) => ∀ k ∈ a4x p x o, subR (rg x k.toNat 0) [o]) a8i fun o =>
  LS.at (C := fun y (k : Int) => subR (rg y k.toNat 0) [o]) (fun _ _ h => b3v hp h) fun k => LS.addR fun _ _ _ _ h => h
theorem e4x {p : Pg} (hp : VOk p) {i : Nat} (pc : Nat) (n : Ins) : LS (a3l p i pc n) (a3n p i pc n) := by
 unfold a3l a3n
 by_cases e : n.op = 18
 . simp only [e, if_true]; exact LS.addR fun _ _ _ _ h => h
 simp only [e, if_false]
 by_cases e : alO n.op = true
 . simp only [e, if_true]
   have h1 : LS (fun x => Gv.addR x i n.a [(objR (a0d p) ((i : Int), (pc : Int)) : Int)]) (fun z => subR (rg z i n.a) [(objR (a0d p) ((i : Int), (pc : Int)) : Int)]) := LS.addR fun _ _ _ _ h => h
   by_cases e2 : n.op = 24
   . simp only [e2, if_true, true_imp_iff]
     exact ((e5a (i := i) (n := n) n.c.toNat).comp h1).congr (fun _ => rfl) fun z h => And.comm.1 h
   . simp only [e2, if_false, false_imp_iff, and_true]
     exact h1
 simp only [e]
 by_cases e : n.op = 3 \/ n.op = 19 \/ n.op = 20
 . simp only [e, if_true]; exact LS.addR a8i
 simp only [e, if_false]
 by_cases e : n.op = 25
 . simp only [e, if_true]; exact c0h
 simp only [e, if_false]
 by_cases e : n.op = 33 \/ n.op = 35
 . simp only [e, if_true]; exact c0h
 simp only [e, if_false]
 by_cases e : n.op = 34 \/ n.op = 36 \/ n.op = 47
 . simp only [e, if_true]; exact b6e a8i a8i
 simp only [e, if_false]
 by_cases e : n.op = 38
 . simp only [e, if_true]; exact b6e a8i a8i
 simp only [e, if_false]
 by_cases e : n.op = 48
 . simp only [e, if_true]
   by_cases h0 : 0 <= n.a
   . simp only [h0, if_true, true_imp_iff]; exact c0h
   . simp only [h0, if_false, false_imp_iff]; exact LS.id
 simp only [e, if_false]
 by_cases e : n.op = 51
 . simp only [e, if_true]
   by_cases h1 : n.b = 1
   . simp only [h1, if_true]; exact b6e a8i a8i
   . simp only [h1, if_false]
     by_cases h0 : 0 <= n.c
     . simp only [h0, if_true, true_imp_iff]; exact c0h
     . simp only [h0, if_false, false_imp_iff]; exact LS.id
 simp only [e, if_false]
 by_cases e : n.op = 26 \/ n.op = 28 \/ n.op = 31
 . simp only [e, if_true]
   by_cases e2 : n.op = 26 /\ 0 <= n.a
   . have := (d2i (i := i) (n := n) ((fnAt p n.b).params.toNat)).comp (e4y (i := i) (n := n) (fnAt p n.b).code)
     simp only [e2, and_self, if_true, true_imp_iff]
     exact this
   . simp only [e2, if_false, false_imp_iff, and_true]
     exact d2i _
 simp only [e, if_false]
 by_cases e : n.op = 27 \/ n.op = 29 \/ n.op = 32
 . simp only [e, if_true]; exact e5b hp i n.a
 simp only [e, if_false]
 exact LS.id
theorem e4z {p : Pg} (hp : VOk p) {i : Nat} {code : List Ins} (k : Nat) (hk : k <= code.length) : LS (b3b p i code k) (fun x => ∀ j (hj : j < code.length), j < k -> a3n p i j code[j] x) := by
 induction k with
 | zero => exact LS.id.congr (fun _ => rfl) fun z _ => trivial
 | succ k ih =>
   have hk' : k < code.length := by omega
   have := (ih (by omega)).comp (e4x hp (i := i) k code[k])
   exact this.congr (fun x => by simp only [b3b, List.getElem?_eq_getElem hk']) fun x h => ⟨fun j hj hjk => h j hj (by omega), h k hk' (by omega)⟩
theorem d7r {p : Pg} (hp : VOk p) (k : Nat) (hk : k <= p.funcs.length) : LS (fun x => b1e p x k) (fun x => ∀ i (hi : i < p.funcs.length), i < k -> ∀ j (hj : j < p.funcs[i].code.length), a3n p i j p.funcs[i].code[j] x) := by
 induction k with
 | zero => exact LS.id.congr (fun _ => rfl) fun z _ => trivial
 | succ k ih =>
   have hk' : k < p.funcs.length := by omega
   have := (ih (by omega)).comp (e4z hp (i := k) (code := p.funcs[k].code) _ (Nat.le_refl _))
   exact this.congr (fun x => by simp only [b1e, List.getElem?_eq_getElem hk']) fun x h => ⟨fun i hi hik j hj => h i hi (by omega) j hj, fun j hj _ => h k hk' (by omega) j hj⟩
theorem c9c {p : Pg} (hp : VOk p) {x z : Pts} (hz : a5q p z) (h : sub x z) : sub (a9r p x) z :=
 d7r hp p.funcs.length (Nat.le_refl _) x z (fun i hi _ j hj => hz i hi j hj) h
structure Least (p : Pg) (x : Pts) : Prop where
 form : Form p x
 conds : a5q p x
 least : ∀ z, a5q p z -> z.sites = a0d p -> sub x z
theorem c2i {p : Pg} {x y : Pts} (hx : Form p x) (hy : Form p y) (h : sub x y) : le x y := by
 refine ⟨h.1, by rw [hx.cn, hy.cn], by rw [hx.rn, hy.rn], fun f => ?_, fun f a o ho => b1a h f a o ho, fun c o ho => b6s h c o ho⟩
 rw [List.getD_eq_getElem?_getD, List.getD_eq_getElem?_getD]
 by_cases hf : f < p.funcs.length
 . have h1 : f < x.regs.length := by rw [hx.rn]; exact hf
   have h2 : f < y.regs.length := by rw [hy.rn]; exact hf
   rw [List.getElem?_eq_getElem h1, List.getElem?_eq_getElem h2, Option.getD_some, Option.getD_some]
   have := hx.fn f h1 hf
   have := hy.fn f h2 hf
   omega
 . rw [List.getElem?_eq_none (l := x.regs) (by rw [hx.rn]; omega), List.getElem?_eq_none (l := y.regs) (by rw [hy.rn]; omega)]
theorem Least.unique {p : Pg} {x y : Pts} (hx : Least p x) (hy : Least p y) : x = y :=
 le.anti hx.form hy.form (c2i hx.form hy.form (hx.least y hy.conds hy.form.sites)) (c2i hy.form hx.form (hy.least x hx.conds hx.form.sites))
theorem b0j : ∀ (b a : List Int), inc a -> inc b -> (∀ x ∈ a, x ∈ b) -> List.Sublist a b
 | [], a, _, _, h => by
   cases a with
   | nil => exact List.Sublist.refl _
   | cons d a => exact absurd (h d (by simp)) (by simp)
 | c :: b, [], _, _, _ => List.nil_sublist _
 | c :: b, d :: a, ha, hb, h => by
   obtain ⟨ha1, ha2⟩ := List.pairwise_cons.1 ha
   obtain ⟨hb1, hb2⟩ := List.pairwise_cons.1 hb
   by_cases e : d = c
   . subst e
     refine List.Sublist.cons_cons _ (b0j b a ha2 hb2 fun x hx => ?_)
     rcases List.mem_cons.1 (h x (by simp [hx])) with e | e
     . have := ha1 x hx; omega
     . exact e
   . have hd : d ∈ b := by
      rcases List.mem_cons.1 (h d (by simp)) with e' | e'
      . exact absurd e' e
      . exact e'
     have hcd := hb1 d hd
     refine List.Sublist.cons _ (b0j b (d :: a) ha hb2 fun x hx => ?_)
     rcases List.mem_cons.1 (h x hx) with e' | e'
     . rcases List.mem_cons.1 hx with e2 | e2
       . exact absurd (e2.symm.trans e') e
       . have := ha1 x e2; omega
     . exact e'
theorem c0j : ∀ (a b : List (List Int)), a.length = b.length -> (∀ i (h : i < a.length) (h' : i < b.length), List.Sublist a[i] b[i]) -> lens a <= lens b /\ (lens a = lens b -> a = b)
 | [], [], _, _ => ⟨Nat.le_refl _, fun _ => rfl⟩
 | [], _ :: _, h, _ => by simp at h
 | _ :: _, [], h, _ => by simp at h
 | a :: az, b :: bs, hl, h => by
   have h0 : List.Sublist a b := h 0 (by simp) (by simp)
   have ih := c0j az bs (by simpa using hl) fun i h1 h2 => h (i + 1) (by simp; omega) (by simp; omega)
   have hle := h0.length_le
   have e1 : lens (a :: az) = a.length + lens az := by simp [lens]
   have e2 : lens (b :: bs) = b.length + lens bs := by simp [lens]
   refine ⟨by omega, fun e => ?_⟩
   have := ih.1
   rw [h0.eq_of_length (by omega), ih.2 (by omega)]
theorem c2h : ∀ (a b : List (List (List Int))), a.length = b.length -> (∀ i (h : i < a.length) (h' : i < b.length), lens a[i] <= lens b[i] /\ (lens a[i] = lens b[i] -> a[i] = b[i])) -> (a.map lens).sum <= (b.map lens).sum /\ ((a.map lens).sum = (b.map lens).sum -> a = b)
 | [], [], _, _ => ⟨Nat.le_refl _, fun _ => rfl⟩
 | [], _ :: _, h, _ => by simp at h
 | _ :: _, [], h, _ => by simp at h
 | a :: az, b :: bs, hl, h => by
   have h0 : lens a <= lens b /\ (lens a = lens b -> a = b) := h 0 (by simp) (by simp)
   have ih := c2h az bs (by simpa using hl) fun i h1 h2 => h (i + 1) (by simp; omega) (by simp; omega)
   have e1 : ((a :: az).map lens).sum = lens a + (az.map lens).sum := by simp
   have e2 : ((b :: bs).map lens).sum = lens b + (bs.map lens).sum := by simp
   have := ih.1
   have := h0.1
   refine ⟨by omega, fun e => ?_⟩
   rw [h0.2 (by omega), ih.2 (by omega)]
theorem c8z {x : Pts} {f a : Nat} (hf : f < x.regs.length) (ha : a < x.regs[f].length) : rg x f (a : Int) = x.regs[f][a] := by
 unfold rg
 rw [List.getD_eq_getElem?_getD, List.getD_eq_getElem?_getD, List.getElem?_eq_getElem hf, Option.getD_some, Int.toNat_natCast, List.getElem?_eq_getElem ha, Option.getD_some]
theorem c9t {x : Pts} {o : Nat} (ho : o < x.cells.length) : cl x (o : Int) = x.cells[o] := by
 unfold cl
 rw [List.getD_eq_getElem?_getD, Int.toNat_natCast, List.getElem?_eq_getElem ho, Option.getD_some]
theorem e3u {p : Pg} {x y : Pts} (hx : Form p x) (hy : Form p y) (h : le x y) : b4g x <= b4g y /\ (¬ x = y -> b4g x < b4g y) := by
 have hr := c2h x.regs y.regs (by rw [h.rn]) fun f h1 h2 => by
  have hl : x.regs[f].length = y.regs[f].length := by
   have := h.fn f
   rw [List.getD_eq_getElem?_getD, List.getD_eq_getElem?_getD, List.getElem?_eq_getElem h1, List.getElem?_eq_getElem h2] at this
   exact this.symm
  exact c0j _ _ hl fun a g1 g2 => by
   have := h.rs f (a : Int)
   rw [c8z h1 g1, c8z h2 g2] at this
   exact b0j _ _ (hx.rs f h1 _ (List.getElem_mem g1)).1 (hy.rs f h2 _ (List.getElem_mem g2)).1 this
 have hc := c0j x.cells y.cells (by rw [h.cn]) fun o g1 g2 => by
  have := h.cs (o : Int)
  rw [c9t g1, c9t g2] at this
  exact b0j _ _ (hx.cs _ (List.getElem_mem g1)).1 (hy.cs _ (List.getElem_mem g2)).1 this
 have h1 := hr.1
 have h2 := hc.1
 refine ⟨by unfold b4g; omega, fun hne => ?_⟩
 refine Nat.lt_of_le_of_ne (by unfold b4g; omega) fun e => hne ?_
 unfold b4g at e
 exact Pts.ext' h.sites.symm (hr.2 (by omega)) (hc.2 (by omega))
structure Rnd (p : Pg) (x : Pts) : Prop where
 form : Form p x
 least : ∀ z, a5q p z -> z.sites = a0d p -> sub x z
theorem b7c {p : Pg} (hp : VOk p) {x : Pts} (hx : Form p x) : Form p (a9r p x) /\ le x (a9r p x) := (c0q hp p.funcs.length (Nat.le_refl _)).1 x hx
theorem Rnd.next {p : Pg} (hp : VOk p) {x : Pts} (h : Rnd p x) : Rnd p (a9r p x) :=
 ⟨(b7c hp h.form).1, fun z hz hs => c9c hp hz (h.least z hz hs)⟩
theorem Rnd.fin {p : Pg} (hp : a2q p = true) {x : Pts} (h : Rnd p x) (e : x = a9r p x) : Least p x := ⟨h.form, (c6e hp h.form).1 e.symm, h.least⟩
theorem Form.size {p : Pg} {x : Pts} (hp : VOk p) (h : Form p x) : b4g x <= (p.funcs.length * 64 + (a0d p).length) * (a0d p).length := c5r h.shp fun f hf => (hp.regs hf).r64
def muR (p : Pg) (x : Pts) : Nat := (p.funcs.length * 64 + (a0d p).length) * (a0d p).length - b4g x
theorem Rnd.mu {p : Pg} (hp : VOk p) {x : Pts} (h : Rnd p x) (e : ¬ x = a9r p x) : muR p (a9r p x) < muR p x := by
 have h1 := b7c hp h.form
 have := (e3u h.form h1.1 h1.2).2 e
 have := h1.1.size hp
 unfold muR; omega
def srt (l : List Int) : List Int := l.mergeSort fun a b => decide (a <= b)
theorem b7h {l : List Int} {o : Int} : o ∈ srt l ↔ o ∈ l := List.mem_mergeSort
theorem c3p : srt [] = [] := by simp [srt]
theorem c3q (l : List Int) : (srt l).length = l.length := List.length_mergeSort l
theorem e3o {l : List Int} (h : l.Nodup) : inc (srt l) := by
 have h1 : (srt l).Pairwise (fun a b => a <= b) := by
  have := List.pairwise_mergeSort (le := fun a b : Int => decide (a <= b)) (fun a b c h1 h2 => by simp only [decide_eq_true_eq] at *; omega) (fun a b => by simp only [Bool.or_eq_true, decide_eq_true_eq]; omega) l
  exact this.imp fun h => by simpa using h
 have h2 : (srt l).Nodup := (List.mergeSort_perm l _).nodup_iff.2 h
 have h3 := List.pairwise_and_iff.2 ⟨h1, h2⟩
 exact h3.imp fun ⟨h1, h2⟩ => by omega
def b0t (y : Pts) : Pts := ⟨y.sites, y.regs.map (·.map srt), y.cells.map srt⟩
theorem d1q (y : Pts) (f : Nat) (a : Int) : rg (b0t y) f a = srt (rg y f a) := by
 unfold rg b0t
 simp only [List.getD_eq_getElem?_getD, List.getElem?_map]
 cases y.regs[f]? with
 | none => simp [c3p]
 | some r =>
   simp only [Option.map_some, Option.getD_some, List.getElem?_map]
   cases r[a.toNat]? <;> simp [c3p]
theorem d4r (y : Pts) (o : Int) : cl (b0t y) o = srt (cl y o) := by
 unfold cl b0t
 simp only [List.getD_eq_getElem?_getD, List.getElem?_map]
 cases y.cells[o.toNat]? <;> simp [c3p]
theorem b9m (y : Pts) : sub (b0t y) y /\ sub y (b0t y) := by
 refine ⟨⟨rfl, fun t o ho => ?_⟩, ⟨rfl, fun t o ho => ?_⟩⟩
 . cases t with
   | r f a => have ho : o ∈ rg (b0t y) f (a : Int) := ho; rw [d1q] at ho; exact b7h.1 ho
   | c b => have ho : o ∈ cl (b0t y) (b : Int) := ho; rw [d4r] at ho; exact b7h.1 ho
 . cases t with
   | r f a => show o ∈ rg (b0t y) f (a : Int); rw [d1q]; exact b7h.2 ho
   | c b => show o ∈ cl (b0t y) (b : Int); rw [d4r]; exact b7h.2 ho
theorem c2r {p : Pg} (hp : VOk p) {x y : Pts} (h : sub x y) (h' : sub y x) : a5q p x ↔ a5q p y := by
 have hr : ∀ f a o, o ∈ rg x f a ↔ o ∈ rg y f a := fun f a o => ⟨b1a h f a o, b1a h' f a o⟩
 have hc : ∀ c o, o ∈ cl x c ↔ o ∈ cl y c := fun c o => ⟨b6s h c o, b6s h' c o⟩
 have hf : ∀ o k, k ∈ a4x p x o ↔ k ∈ a4x p y o := fun o k => ⟨b3v hp h k, b3v hp h' k⟩
 have key : ∀ f pc n, a3n p f pc n x ↔ a3n p f pc n y := fun f pc n => by
  unfold a3n
  simp only [subR, hr, hc, hf]
 unfold a5q
 simp only [key]
theorem okA.srt {n : Nat} {l : List Int} (h : okA n l) : okS n (srt l) := ⟨e3o h.1, fun x hx => h.2 x (b7h.1 hx)⟩
theorem d0y {p : Pg} {y : Pts} (h : Shp p y) : Form p (b0t y) := by
 refine ⟨h.sites, by simp [b0t, h.cn], by simp [b0t, h.rn], fun f h1 h2 => ?_, fun f h1 s hs => ?_, fun s hs => ?_⟩
 . have h3 : f < y.regs.length := by simpa [b0t] using h1
   have := h.fn f h3 h2
   simpa [b0t] using this
 . have h3 : f < y.regs.length := by simpa [b0t] using h1
   have hs : s ∈ y.regs[f].map Gv.srt := by simpa [b0t] using hs
   obtain ⟨t, ht, rfl⟩ := List.mem_map.1 hs
   exact (h.rs f h3 t ht).srt
 . obtain ⟨t, ht, rfl⟩ := List.mem_map.1 hs
   exact (h.cs t ht).srt
structure Crd (p : Pg) (y : Pts) : Prop where
 shp : Shp p y
 least : ∀ z, a5q p z -> z.sites = a0d p -> sub y z
theorem Crd.step {p : Pg} {y y' : Pts} {b' : Bool} (h : Crd p y) (hs : Shp p y') (ht : TR false (a5q p) (a5q p) y false y' b') : Crd p y' :=
 ⟨hs, fun z hz e => ht.least z hz (h.least z hz e)⟩
theorem Crd.fin {p : Pg} (hp : VOk p) {y y' : Pts} (h : Crd p y) (ht : TR false (a5q p) (a5q p) y false y' false) : y' = y /\ Least p (b0t y) := by
 obtain ⟨_, h1, h2⟩ := ht.good rfl
 refine ⟨h1, d0y h.shp, (c2r hp (b9m y).1 (b9m y).2).2 h2, fun z hz e => (b9m y).1.trans (h.least z hz e)⟩
theorem Crd.mu {p : Pg} (hp : VOk p) {y y' : Pts} (hs : Shp p y') (ht : TR false (a5q p) (a5q p) y false y' true) : muR p y' < muR p y := by
 rcases ht.prog rfl with ⟨_, h⟩ | ⟨h, _⟩
 . cases h
 . have := c5r hs fun f hf => (hp.regs hf).r64
   unfold muR; omega
def mk1 (l : List Bool) (o : Int) : List Bool := l.set o.toNat true
def mkL (l : List Bool) (s : List Int) : List Bool := s.foldl mk1 l
def isM (l : List Bool) (o : Int) : Prop := 0 <= o /\ l[o.toNat]? = some true
theorem c0g (l : List Bool) (o : Int) : (mk1 l o).length = l.length := by simp [mk1]
theorem b1f : ∀ (s : List Int) (l : List Bool), (mkL l s).length = l.length
 | [], _ => rfl
 | o :: s, l => by
   show (mkL (mk1 l o) s).length = _
   rw [b1f s, c0g]
theorem b1z (l : List Bool) (a b : List Int) : mkL l (a ++ b) = mkL (mkL l a) b := by simp [mkL, List.foldl_append]
theorem d2q {l : List Bool} {o v : Int} (h0 : 0 <= o) (h1 : o < (l.length : Int)) : isM (mk1 l o) v ↔ isM l v \/ v = o := by
 unfold isM mk1
 rw [List.getElem?_set]
 by_cases e : o.toNat = v.toNat
 . rw [if_pos e, if_pos (by omega)]
   constructor
   . rintro ⟨h, _⟩; right; omega
   . rintro (h | h)
     . exact ⟨h.1, rfl⟩
     . exact ⟨by omega, rfl⟩
 . rw [if_neg e]
   constructor
   . exact .inl
   . rintro (h | h)
     . exact h
     . subst h; exact absurd rfl e
theorem b4p {v : Int} : ∀ (s : List Int) (l : List Bool), (∀ o ∈ s, 0 <= o /\ o < (l.length : Int)) -> (isM (mkL l s) v ↔ isM l v \/ v ∈ s)
 | [], l, _ => by simp [mkL]
 | o :: s, l, h => by
   have h1 := h o (by simp)
   have ih := b4p (v := v) s (mk1 l o) fun a ha => by rw [c0g]; exact h a (by simp [ha])
   show isM (mkL (mk1 l o) s) v ↔ _
   rw [ih, d2q h1.1 h1.2, List.mem_cons, or_assoc]
theorem c6t {l : List Bool} {o : Int} (h : isM l o) : o < (l.length : Int) := by
 have := (List.getElem?_eq_some_iff.1 h.2).1
 have := h.1
 omega
theorem b2p {l : List Bool} {o : Nat} (h : o < l.length) : isM l (o : Int) ↔ l[o] = true := by
 unfold isM
 rw [Int.toNat_natCast, List.getElem?_eq_getElem h]
 simp
theorem e2j {a b : List Bool} (hl : a.length = b.length) (h : ∀ v, isM a v ↔ isM b v) : a = b := by
 refine List.ext_getElem hl fun i h1 h2 => ?_
 have := h (i : Int)
 rw [b2p h1, b2p h2] at this
 exact Bool.eq_iff_iff.2 this
def rtK (x : Pts) (f : Nat) (n : Ins) (k : Nat) : List Int := (List.range k).flatMap fun (i : Nat) => rg x f (n.c + i)
def rtI (p : Pg) (x : Pts) (f : Nat) (n : Ins) : List Int := if n.op = 31 then rtK x f n (a5f p.funcs n.b).toNat else if n.op = 32 then rg x f n.a else []
def rtQ (p : Pg) (x : Pts) (f : Nat) (code : List Ins) (j : Nat) : List Int := (code.take j).flatMap (rtI p x f)
def rtP (p : Pg) (x : Pts) : Nat -> List Int
 | 0 => [0]
 | i + 1 => rtP p x i ++ (match p.funcs[i]? with | some fn => rtQ p x i fn.code fn.code.length | none => [])
def rtA (p : Pg) (x : Pts) : List Int := rtP p x p.funcs.length
theorem e9f (x : Pts) (f : Nat) (n : Ins) (k : Nat) : rtK x f n (k + 1) = rtK x f n k ++ rg x f (n.c + k) := by simp [rtK, List.range_succ, List.flatMap_append]
theorem e9e {p : Pg} {x : Pts} {f : Nat} {code : List Ins} {j : Nat} (h : j < code.length) : rtQ p x f code (j + 1) = rtQ p x f code j ++ rtI p x f code[j] := by
 unfold rtQ
 rw [List.take_succ_eq_append_getElem h, List.flatMap_append]
 simp only [List.flatMap_cons, List.flatMap_nil, List.append_nil]
theorem e4a {p : Pg} {x : Pts} {i : Nat} (h : i < p.funcs.length) : rtP p x (i + 1) = rtP p x i ++ rtQ p x i p.funcs[i].code p.funcs[i].code.length := by
 rw [rtP, List.getElem?_eq_getElem h]
theorem g0l {p : Pg} {x : Pts} (hx : Form p x) {f : Nat} {n : Ins} {k : Nat} : ∀ o ∈ rtK x f n k, 0 <= o /\ o < ((a0d p).length : Int) := fun o ho => by
 obtain ⟨i, _, h⟩ := List.mem_flatMap.1 ho
 exact hx.regB f _ o h
theorem g0m {p : Pg} {x : Pts} (hx : Form p x) {f : Nat} {n : Ins} : ∀ o ∈ rtI p x f n, 0 <= o /\ o < ((a0d p).length : Int) := fun o ho => by
 unfold rtI at ho
 split at ho
 . exact g0l hx o ho
 . split at ho
   . exact hx.regB f _ o ho
   . cases ho
theorem g0j {p : Pg} {x : Pts} (hx : Form p x) {f : Nat} {code : List Ins} {j : Nat} : ∀ o ∈ rtQ p x f code j, 0 <= o /\ o < ((a0d p).length : Int) := fun o ho => by
 obtain ⟨n, _, h⟩ := List.mem_flatMap.1 ho
 exact g0m hx o h
theorem e4b {p : Pg} {x : Pts} (hx : Form p x) : ∀ i, ∀ o ∈ rtP p x i, 0 <= o /\ o < ((a0d p).length : Int)
 | 0, o, ho => by
   have := a6r p
   rw [rtP, List.mem_singleton] at ho; subst ho; omega
 | i + 1, o, ho => by
   rw [rtP, List.mem_append] at ho
   rcases ho with ho | ho
   . exact e4b hx i o ho
   . cases h : p.funcs[i]? with
     | none => rw [h] at ho; cases ho
     | some fn => rw [h] at ho; exact g0j hx o ho
theorem c3h (p : Pg) (x : Pts) : ∀ i, (0 : Int) ∈ rtP p x i
 | 0 => by simp [rtP]
 | i + 1 => by rw [rtP, List.mem_append]; exact .inl (c3h p x i)
theorem e4m {n : Nat} {l : List Int} (h : okS n l) : l.length <= n := b1l h.1 h.2
theorem c0w {α : Type} {B : Nat} {g : α -> List Int} : ∀ (l : List α), (∀ a ∈ l, (g a).length <= B) -> (l.flatMap g).length <= l.length * B
 | [], _ => by simp
 | a :: l, h => by
   have h1 := h a (by simp)
   have h2 := c0w l fun b hb => h b (by simp [hb])
   rw [List.flatMap_cons, List.length_append, List.length_cons, Nat.add_mul, Nat.one_mul]
   omega
theorem d1k {p : Pg} {x : Pts} (hx : Form p x) {f : Nat} {n : Ins} {k : Nat} : (rtK x f n k).length <= k * (a0d p).length := by
 have := c0w (g := fun (i : Nat) => rg x f (n.c + i)) (List.range k) fun a _ => e4m (hx.reg f _)
 simpa [rtK] using this
theorem c6f {p : Pg} (hp : VOk p) (v : Int) : (a5f p.funcs v).toNat <= 64 := by
 unfold a5f
 split
 . rename_i y hy
   obtain ⟨k1, k2, _⟩ := a7r (hp.head y (List.mem_of_getElem? hy))
   omega
 . decide
theorem e4c {p : Pg} (hp : VOk p) {x : Pts} (hx : Form p x) {f : Nat} {n : Ins} : (rtI p x f n).length <= 64 * (a0d p).length := by
 have h1 := c6f hp n.b
 unfold rtI
 split
 . refine Nat.le_trans (d1k hx) (Nat.mul_le_mul_right _ h1)
 . split
   . have := e4m (hx.reg f n.a); omega
   . simp
theorem d1i {p : Pg} (hp : VOk p) {x : Pts} (hx : Form p x) {f : Nat} (hf : f < p.funcs.length) {j : Nat} (hj : j <= p.funcs[f].code.length) : (rtQ p x f p.funcs[f].code j).length <= j * (64 * (a0d p).length) := by
 have := c0w (g := rtI p x f) (p.funcs[f].code.take j) fun a _ => e4c hp hx
 rw [List.length_take, Nat.min_eq_left hj] at this
 exact this
theorem d1j {p : Pg} (hp : VOk p) {x : Pts} (hx : Form p x) : ∀ i, i <= p.funcs.length -> (rtP p x i).length <= 1 + i * (1000 * (64 * (a0d p).length))
 | 0, _ => by simp [rtP]
 | i + 1, h => by
   have ih := d1j hp hx i (by omega)
   have hi : i < p.funcs.length := by omega
   have h1 := d1i hp hx hi (Nat.le_refl _)
   have h2 : p.funcs[i].code.length <= 1000 := (a7r (hp.head _ (List.getElem_mem hi))).2.2
   have h3 := Nat.mul_le_mul_right (64 * (a0d p).length) h2
   rw [e4a hi, List.length_append, Nat.add_mul, Nat.one_mul]
   omega
inductive Rch (p : Pg) (x : Pts) : Int -> Prop
 | root {o : Int} : o ∈ rtA p x -> Rch p x o
 | cell {o v : Int} : Rch p x o -> v ∈ cl x o -> Rch p x v
theorem Rch.bd {p : Pg} {x : Pts} (hx : Form p x) {o : Int} (h : Rch p x o) : 0 <= o /\ o < ((a0d p).length : Int) := by
 induction h with
 | root h => exact e4b hx _ _ h
 | cell _ h => exact hx.cellB _ _ h
open Classical in
noncomputable def rchL (p : Pg) (x : Pts) : List Bool := (List.range (a0d p).length).map fun (o : Nat) => decide (Rch p x (o : Int))
theorem b0e (p : Pg) (x : Pts) : (rchL p x).length = (a0d p).length := by simp [rchL]
theorem b2c {p : Pg} {x : Pts} (hx : Form p x) {o : Int} : isM (rchL p x) o ↔ Rch p x o := by
 constructor
 . intro h
   have h1 := c6t h
   rw [b0e] at h1
   have h2 : o.toNat < (a0d p).length := by have := h.1; omega
   have h3 := h.2
   unfold rchL at h3
   rw [List.getElem?_map, List.getElem?_range h2] at h3
   have e : ((o.toNat : Nat) : Int) = o := by have := h.1; omega
   simp only [Option.map_some, e, Option.some.injEq, decide_eq_true_eq] at h3
   exact h3
 . intro h
   obtain ⟨h0, h1⟩ := h.bd hx
   have h2 : o.toNat < (a0d p).length := by omega
   have e : ((o.toNat : Nat) : Int) = o := by omega
   refine ⟨h0, ?_⟩
   unfold rchL
   rw [List.getElem?_map, List.getElem?_range h2]
   simp [e, h]
theorem c3x (n : Nat) (o : Int) : ¬ isM (List.replicate n false) o := fun h => by
 have := h.2
 rw [List.getElem?_replicate] at this
 split at this <;> simp at this
def wt (x : Pts) (l : List Bool) : Nat := ((List.range l.length).map fun (o : Nat) => if l[o]? = some true then 0 else (cl x (o : Int)).length + 1).sum
theorem d0v : ∀ (n : Nat) (f g : Nat -> Nat) (i : Nat), i < n -> (∀ j, j ≠ i -> g j = f j) -> ((List.range n).map g).sum + f i = ((List.range n).map f).sum + g i
 | 0, _, _, _, h, _ => by omega
 | n + 1, f, g, i, h, he => by
   rw [List.range_succ, List.map_append, List.map_append, List.sum_append, List.sum_append]
   simp only [List.map_cons, List.map_nil, List.sum_cons, List.sum_nil, Nat.add_zero]
   by_cases e : i = n
   . subst e
     have : (List.range i).map g = (List.range i).map f := by
      refine List.map_congr_left fun j hj => he j ?_
      rw [List.mem_range] at hj; omega
     rw [this]; omega
   . have ih := d0v n f g i (by omega) he
     have := he n (by omega)
     omega
theorem e8m {x : Pts} {l : List Bool} {o : Nat} (h : o < l.length) (hm : ¬ l[o] = true) : wt x (mk1 l (o : Int)) + (cl x (o : Int)).length + 1 = wt x l := by
 unfold wt
 rw [c0g]
 have h1 : (mk1 l (o : Int))[o]? = some true := by
  unfold mk1
  rw [Int.toNat_natCast, List.getElem?_set_self (by simpa using h)]
 have h2 : ¬ l[o]? = some true := by rw [List.getElem?_eq_getElem h]; simpa using hm
 have := d0v l.length (fun (o : Nat) => if l[o]? = some true then 0 else (cl x (o : Int)).length + 1) (fun (k : Nat) => if (mk1 l (o : Int))[k]? = some true then 0 else (cl x (k : Int)).length + 1) o h fun j hj => by
  have : (mk1 l (o : Int))[j]? = l[j]? := by
   unfold mk1
   rw [Int.toNat_natCast, List.getElem?_set_ne (Ne.symm hj)]
  simp only [this]
 simp only [h1, h2, if_true, if_false] at this
 omega
def stkK (p : Pg) (x : Pts) : Nat := (rtA p x).length + wt x (List.replicate (a0d p).length false)
structure Dfs (p : Pg) (x : Pts) (l : List Bool) (sk : List Int) : Prop where
 len : l.length = (a0d p).length
 st : ∀ o ∈ sk, Rch p x o
 mkd : ∀ o, isM l o -> Rch p x o
 rt : ∀ o ∈ rtA p x, isM l o \/ o ∈ sk
 cs : ∀ o, isM l o -> ∀ v ∈ cl x o, isM l v \/ v ∈ sk
 bd : sk.length + wt x l <= stkK p x
theorem Dfs.init (p : Pg) (x : Pts) : Dfs p x (List.replicate (a0d p).length false) (rtA p x) :=
 ⟨by simp, fun _ h => .root h, fun o h => absurd h (c3x _ o), fun _ h => .inr h, fun o h => absurd h (c3x _ o), Nat.le_refl _⟩
theorem Dfs.popM {p : Pg} {x : Pts} {l : List Bool} {st : List Int} {o : Int} (h : Dfs p x l (st ++ [o])) (hm : isM l o) : Dfs p x l st := by
 have key : ∀ v, isM l v \/ v ∈ st ++ [o] -> isM l v \/ v ∈ st := fun v hv => by
  rcases hv with hv | hv
  . exact .inl hv
  . rcases List.mem_append.1 hv with hv | hv
    . exact .inr hv
    . rw [List.mem_singleton] at hv; subst hv; exact .inl hm
 refine ⟨h.len, fun v hv => h.st v (List.mem_append_left _ hv), h.mkd, fun v hv => key v (h.rt v hv), fun a ha v hv => key v (h.cs a ha v hv), ?_⟩
 have := h.bd
 rw [List.length_append] at this
 omega
theorem Dfs.popU {p : Pg} {x : Pts} (hx : Form p x) {l : List Bool} {st : List Int} {o : Nat} (h : Dfs p x l (st ++ [(o : Int)])) (ho : o < l.length) (hm : ¬ l[o] = true) : Dfs p x (mk1 l (o : Int)) (st ++ cl x (o : Int)) := by
 have hi : ∀ v, isM (mk1 l (o : Int)) v ↔ isM l v \/ v = (o : Int) := fun v => d2q (by omega) (by omega)
 have hR : Rch p x (o : Int) := h.st _ (by simp)
 have key : ∀ v, isM l v \/ v ∈ st ++ [(o : Int)] -> isM (mk1 l (o : Int)) v \/ v ∈ st ++ cl x (o : Int) := fun v hv => by
  rcases hv with hv | hv
  . exact .inl ((hi v).2 (.inl hv))
  . rcases List.mem_append.1 hv with hv | hv
    . exact .inr (List.mem_append_left _ hv)
    . rw [List.mem_singleton] at hv; exact .inl ((hi v).2 (.inr hv))
 refine ⟨by rw [c0g]; exact h.len, fun v hv => ?_, fun v hv => ?_, fun v hv => key v (h.rt v hv), fun a ha v hv => ?_, ?_⟩
 . rcases List.mem_append.1 hv with hv | hv
   . exact h.st v (List.mem_append_left _ hv)
   . exact .cell hR hv
 . rcases (hi v).1 hv with hv | hv
   . exact h.mkd v hv
   . rw [hv]; exact hR
 . rcases (hi a).1 ha with ha | ha
   . exact key v (h.cs a ha v hv)
   . subst ha; exact .inr (List.mem_append_right _ hv)
 . have h1 := h.bd
   have h2 := e8m (x := x) ho hm
   rw [List.length_append] at h1 ⊢
   simp only [List.length_singleton] at h1
   omega
theorem b8a {p : Pg} {x : Pts} (hx : Form p x) {l : List Bool} (hl : l.length = (a0d p).length) (hm : ∀ o, isM l o -> Rch p x o) (hr : ∀ o ∈ rtA p x, isM l o) (hc : ∀ o, isM l o -> ∀ v ∈ cl x o, isM l v) : l = rchL p x := by
 refine e2j (by rw [hl, b0e]) fun v => ?_
 rw [b2c hx]
 refine ⟨hm v, fun h => ?_⟩
 induction h with
 | root h => exact hr _ h
 | cell _ h ih => exact hc _ ih _ h
theorem Dfs.fin {p : Pg} {x : Pts} (hx : Form p x) {l : List Bool} (h : Dfs p x l []) : l = rchL p x :=
 b8a hx h.len h.mkd (fun o ho => (h.rt o ho).resolve_right (by simp)) fun o ho v hv => (h.cs o ho v hv).resolve_right (by simp)
def rdS (x : Pts) (l : List Bool) (k : Nat) : List Bool := (List.range k).foldl (fun l (o : Nat) => if l[o]? = some true then mkL l (cl x (o : Int)) else l) l
theorem g0w (x : Pts) (l : List Bool) : rdS x l 0 = l := rfl
theorem c9b (x : Pts) (l : List Bool) (k : Nat) : rdS x l (k + 1) = if (rdS x l k)[k]? = some true then mkL (rdS x l k) (cl x (k : Int)) else rdS x l k := by
 unfold rdS
 rw [List.range_succ, List.foldl_append]
 rfl
theorem a8k (x : Pts) (l : List Bool) : ∀ k, (rdS x l k).length = l.length
 | 0 => rfl
 | k + 1 => by
   rw [c9b]
   split
   . rw [b1f]; exact a8k x l k
   . exact a8k x l k
theorem e9o {p : Pg} {x : Pts} (hx : Form p x) {l : List Bool} (hl : l.length = (a0d p).length) {v : Int} (k : Nat) (h : isM (rdS x l k) v) : isM (rdS x l (k + 1)) v := by
 rw [c9b]
 split
 . exact (b4p _ _ fun o ho => by rw [a8k, hl]; exact hx.cellB _ o ho).2 (.inl h)
 . exact h
theorem b5y {p : Pg} {x : Pts} (hx : Form p x) {l : List Bool} (hl : l.length = (a0d p).length) {v : Int} (j : Nat) : ∀ k, j <= k -> isM (rdS x l j) v -> isM (rdS x l k) v
 | 0, hk, h => by rw [Nat.le_zero.1 hk] at h; exact h
 | k + 1, hk, h => by
   by_cases e : j = k + 1
   . rw [<- e]; exact h
   . exact e9o hx hl k (b5y hx hl j k (by omega) h)
theorem e9p {p : Pg} {x : Pts} (hx : Form p x) {l : List Bool} (hl : l.length = (a0d p).length) (hm : ∀ o, isM l o -> Rch p x o) : ∀ k v, isM (rdS x l k) v -> Rch p x v
 | 0, v, h => hm v h
 | k + 1, v, h => by
   have ih := e9p hx hl hm k
   rw [c9b] at h
   split at h
   . rename_i hk
     rcases (b4p _ _ fun o ho => by rw [a8k, hl]; exact hx.cellB _ o ho).1 h with h | h
     . exact ih v h
     . exact .cell (ih (k : Int) ⟨by omega, by simpa using hk⟩) h
   . exact ih v h
def Cls (x : Pts) (l : List Bool) : Prop := ∀ o, isM l o -> ∀ v ∈ cl x o, isM l v
theorem d1x {p : Pg} {x : Pts} (hx : Form p x) {l : List Bool} (hl : l.length = (a0d p).length) (h : Cls x l) : ∀ k, rdS x l k = l
 | 0 => rfl
 | k + 1 => by
   rw [c9b, d1x hx hl h k]
   split
   . rename_i hk
     refine e2j (b1f _ _) fun v => ?_
     rw [b4p _ _ fun o ho => by rw [hl]; exact hx.cellB _ o ho]
     exact ⟨fun hv => by
      rcases hv with hv | hv
      . exact hv
      . exact h (k : Int) ⟨by omega, by simpa using hk⟩ v hv, .inl⟩
   . rfl
theorem e7c {p : Pg} {x : Pts} (hx : Form p x) {l : List Bool} (hl : l.length = (a0d p).length) (h : rdS x l l.length = l) : Cls x l := fun o ho v hv => by
 have h1 := c6t ho
 have e : ((o.toNat : Nat) : Int) = o := by have := ho.1; omega
 have h2 : isM (rdS x l o.toNat) o := b5y hx hl 0 o.toNat (by omega) ho
 have h3 : isM (rdS x l (o.toNat + 1)) v := by
  rw [c9b, if_pos h2.2, e]
  exact (b4p _ _ fun a ha => by rw [a8k, hl]; exact hx.cellB _ a ha).2 (.inr hv)
 have h4 := b5y hx hl (o.toNat + 1) l.length (by have := ho.1; omega) h3
 rw [h] at h4
 exact h4
theorem d4n : ∀ (a b : List Bool), a.length = b.length -> (∀ i (h : i < a.length) (h' : i < b.length), a[i] = true -> b[i] = true) -> a.count true <= b.count true /\ (a.count true = b.count true -> a = b)
 | [], [], _, _ => ⟨Nat.le_refl _, fun _ => rfl⟩
 | [], _ :: _, h, _ => by simp at h
 | _ :: _, [], h, _ => by simp at h
 | a :: az, b :: bs, hl, h => by
   have h0 : a = true -> b = true := h 0 (by simp) (by simp)
   have ih := d4n az bs (by simpa using hl) fun i h1 h2 => h (i + 1) (by simp; omega) (by simp; omega)
   have h1 := ih.1
   rw [List.count_cons, List.count_cons]
   cases a <;> cases b
   . simp
     exact ⟨h1, fun e => ih.2 e⟩
   . simp
     exact ⟨by omega, fun e => by omega⟩
   . exact absurd (h0 rfl) (by simp)
   . simp only [beq_self_eq_true, if_true]
     exact ⟨by omega, fun e => by rw [ih.2 (by omega)]⟩
structure Rds (p : Pg) (x : Pts) (l : List Bool) (r : Nat) : Prop where
 len : l.length = (a0d p).length
 mkd : ∀ o, isM l o -> Rch p x o
 rt : ∀ o ∈ rtA p x, isM l o
 go : Cls x l \/ r + 1 <= l.count true
def l0R (p : Pg) (x : Pts) : List Bool := mkL (List.replicate (a0d p).length false) (rtA p x)
theorem Rds.init {p : Pg} {x : Pts} (hx : Form p x) : Rds p x (l0R p x) 0 := by
 have hi : ∀ v, isM (l0R p x) v ↔ v ∈ rtA p x := fun v => by
  unfold l0R
  rw [b4p _ _ fun o ho => by rw [List.length_replicate]; exact e4b hx _ o ho]
  exact ⟨fun h => h.resolve_left (c3x _ v), .inr⟩
 refine ⟨by rw [l0R, b1f, List.length_replicate], fun o h => .root ((hi o).1 h), fun o h => (hi o).2 h, .inr ?_⟩
 have h0 := ((hi 0).2 (c3h p x _)).2
 exact List.count_pos_iff.2 (List.mem_of_getElem? h0)
theorem Rds.next {p : Pg} {x : Pts} (hx : Form p x) {l : List Bool} {r : Nat} (h : Rds p x l r) : Rds p x (rdS x l l.length) (r + 1) := by
 have hup : ∀ v, isM l v -> isM (rdS x l l.length) v := fun v hv => b5y hx h.len 0 l.length (by omega) hv
 refine ⟨by rw [a8k]; exact h.len, e9p hx h.len h.mkd _, fun o ho => hup o (h.rt o ho), ?_⟩
 rcases h.go with hc | hc
 . rw [d1x hx h.len hc]; exact .inl hc
 . have hs := d4n l (rdS x l l.length) (a8k x l l.length).symm fun i h1 h2 hi => (b2p h2).1 (hup _ ((b2p h1).2 hi))
   by_cases e : l.count true = (rdS x l l.length).count true
   . have e2 := hs.2 e
     rw [<- e2]
     exact .inl (e7c hx h.len e2.symm)
   . exact .inr (by omega)
theorem Rds.fin {p : Pg} {x : Pts} (hx : Form p x) {l : List Bool} (h : Rds p x l (a0d p).length) : l = rchL p x := by
 refine b8a hx h.len h.mkd h.rt ?_
 rcases h.go with hc | hc
 . exact hc
 . have := List.count_le_length (a := true) (l := l)
   rw [h.len] at this
   omega
theorem c9d (p : Pg) (v : Int) : a5f p.funcs v = (fnAt p v).params := by
 unfold a5f fnAt
 rw [List.getD_eq_getElem?_getD]
 cases p.funcs[v.toNat]? <;> rfl
theorem c5x {p : Pg} {x z : Pts} (h : sub x z) : ∀ i, ∀ o ∈ rtP p x i, o ∈ rtP p z i
 | 0, o, ho => ho
 | i + 1, o, ho => by
   rw [rtP, List.mem_append] at ho ⊢
   rcases ho with ho | ho
   . exact .inl (c5x h i o ho)
   . right
     cases hq : p.funcs[i]? with
     | none => rw [hq] at ho; exact ho
     | some fn =>
       rw [hq] at ho
       obtain ⟨n, hn, h2⟩ := List.mem_flatMap.1 ho
       refine List.mem_flatMap.2 ⟨n, hn, ?_⟩
       unfold rtI at h2 ⊢
       split at h2
       . rename_i e
         rw [if_pos e]
         obtain ⟨k, hk, h3⟩ := List.mem_flatMap.1 h2
         exact List.mem_flatMap.2 ⟨k, hk, b1a h i _ o h3⟩
       . rename_i e
         rw [if_neg e]
         split at h2
         . rename_i e2
           rw [if_pos e2]; exact b1a h i _ o h2
         . cases h2
theorem Rch.mono {p : Pg} {x z : Pts} (h : sub x z) {o : Int} (hr : Rch p x o) : Rch p z o := by
 induction hr with
 | root hr => exact .root (c5x h _ _ hr)
 | cell _ hv ih => exact .cell ih (b6s h _ _ hv)
def p1 : Pg := ⟨[⟨⟨⟨[109, 97, 105, 110]⟩⟩, 0, 2, [⟨21, 0, 0, 0, 0⟩, ⟨21, 1, 0, 0, 0⟩, ⟨31, 0, 1, 0, 0⟩, ⟨30, -1, 0, 0, 0⟩]⟩, ⟨⟨⟨[102]⟩⟩, 1, 1, [⟨30, -1, 0, 0, 0⟩]⟩], [], [[0]], 0⟩
def x1 : Pts := ⟨[(0, 0), (0, 0), (0, 1)], [[[1], [2]], [[1]]], [[], [], []]⟩
theorem c5b : a2q p1 = true := by decide +kernel
theorem a9b : a0d p1 = [(0, 0), (0, 0), (0, 1)] := by decide +kernel
theorem e9y : objR [(0, 0), (0, 0), (0, 1)] (0, 0) = 1 := by decide +kernel
theorem e4n : objR [(0, 0), (0, 0), (0, 1)] (0, 1) = 2 := by decide +kernel
theorem c4h : Form p1 x1 := by
 refine ⟨a9b.symm, by rw [a9b]; rfl, rfl, fun f h h' => ?_, fun f h s hs => ?_, fun s hs => ?_⟩
 . match f with
   | 0 => rfl
   | 1 => rfl
 . rw [a9b]
   match f with
   | 0 =>
     have hs : s ∈ [[1], [(2 : Int)]] := hs
     simp at hs
     rcases hs with rfl | rfl <;> exact ⟨by simp [inc], by simp⟩
   | 1 =>
     have hs : s ∈ [[(1 : Int)]] := hs
     simp at hs
     subst hs
     exact ⟨by simp [inc], by simp⟩
 . rw [a9b]
   have hs : s ∈ [([] : List Int), [], []] := hs
   simp at hs
   subst hs
   exact ⟨by simp [inc], by simp⟩
theorem c7t (z : Pts) : a5q p1 z ↔ (1 ∈ rg z 0 0 /\ 2 ∈ rg z 0 1 /\ ∀ v ∈ rg z 0 0, v ∈ rg z 1 0) := by
 have e0 : a3n p1 0 0 ⟨21, 0, 0, 0, 0⟩ z ↔ 1 ∈ rg z 0 0 := by simp [a3n, alO, subR, a9b, e9y]
 have e1 : a3n p1 0 1 ⟨21, 1, 0, 0, 0⟩ z ↔ 2 ∈ rg z 0 1 := by simp [a3n, alO, subR, a9b, e4n]
 have e2 : a3n p1 0 2 ⟨31, 0, 1, 0, 0⟩ z ↔ ∀ v ∈ rg z 0 0, v ∈ rg z 1 0 := by
  have hf : (fnAt p1 1).params = 1 := rfl
  simp only [a3n, alO, subR]
  simp [hf]
 have e3 : a3n p1 0 3 ⟨30, -1, 0, 0, 0⟩ z ↔ True := by simp [a3n, alO]
 have e4 : a3n p1 1 0 ⟨30, -1, 0, 0, 0⟩ z ↔ True := by simp [a3n, alO]
 constructor
 . intro h
   exact ⟨e0.1 (h 0 (by decide) 0 (by decide)), e1.1 (h 0 (by decide) 1 (by decide)), e2.1 (h 0 (by decide) 2 (by decide))⟩
 . rintro ⟨h0, h1, h2⟩ i hi j hj
   match i, hi with
   | 0, _ =>
     match j, hj with
     | 0, _ => exact e0.2 h0
     | 1, _ => exact e1.2 h1
     | 2, _ => exact e2.2 h2
     | 3, _ => exact e3.2 trivial
   | 1, _ =>
     match j, hj with
     | 0, _ => exact e4.2 trivial
theorem c6q : Least p1 x1 := by
 refine ⟨c4h, (c7t x1).2 ⟨by simp [rg, x1], by simp [rg, x1], fun v hv => by simpa [rg, x1] using hv⟩, fun z hz hs => ?_⟩
 obtain ⟨h0, h1, h2⟩ := (c7t z).1 hz
 have h3 := h2 1 h0
 refine ⟨by rw [hs, a9b]; rfl, fun t o ho => ?_⟩
 cases t with
 | r f a =>
   have ho : o ∈ rg x1 f (a : Int) := ho
   show o ∈ rg z f (a : Int)
   match f, a with
   | 0, 0 => simp [rg, x1] at ho; subst ho; exact h0
   | 0, 1 => simp [rg, x1] at ho; subst ho; exact h1
   | 1, 0 => simp [rg, x1] at ho; subst ho; exact h3
   | 0, a + 2 =>
     have e : ((a + 2 : Nat) : Int).toNat = a + 2 := Int.toNat_natCast _
     unfold rg at ho; rw [e] at ho; simp [x1] at ho
   | 1, a + 1 =>
     have e : ((a + 1 : Nat) : Int).toNat = a + 1 := Int.toNat_natCast _
     unfold rg at ho; rw [e] at ho; simp [x1] at ho
   | f + 2, a => simp [rg, x1] at ho
 | c a =>
   have ho : o ∈ cl x1 (a : Int) := ho
   exfalso
   unfold cl at ho
   rw [Int.toNat_natCast] at ho
   match a with
   | 0 => simp [x1] at ho
   | 1 => simp [x1] at ho
   | 2 => simp [x1] at ho
   | a + 3 => simp [x1] at ho
theorem e3z : rtA p1 x1 = [0, 1] := by decide +kernel
theorem e9q : rchL p1 x1 = [true, true, false] := by
 refine (b8a c4h (by rw [a9b]; rfl) (fun o ho => ?_) (fun o ho => ?_) fun o ho v hv => ?_).symm
 . have h1 := c6t ho
   have h2 := ho.1
   have h3 : o = 0 \/ o = 1 \/ o = 2 := by simp at h1; omega
   rcases h3 with rfl | rfl | rfl
   . exact .root (by rw [e3z]; simp)
   . exact .root (by rw [e3z]; simp)
   . have := ho.2; simp at this
 . rw [e3z] at ho
   simp at ho
   rcases ho with rfl | rfl <;> exact ⟨by decide, by decide⟩
 . exfalso
   have h1 := c6t ho
   have h2 := ho.1
   have h3 : o = 0 \/ o = 1 \/ o = 2 := by simp at h1; omega
   rcases h3 with rfl | rfl | rfl <;> simp [cl, x1] at hv
end Go.Gv
