/- One of the texts of a proof by an abstract machine over the model. -/
import Derived.Test.YthlhjepijodemaaProg
import Derived.Test.YthlhjepijodemaaAmT
import Derived.KernelRfl
set_option linter.unusedSimpArgs false
set_option linter.unusedVariables false
namespace Go.Ga
open Go Go.AM Go.Proofs
set_option maxRecDepth 100000
set_option maxHeartbeats 4000000

theorem t_mix : Try.prog.follows .mixedOrders = true := by kernel_rfl
theorem f_boolT_3 : boolT Try.prog 3 = Bool.false := by kernel_rfl
theorem f_boolT_30 : boolT Try.prog 30 = Bool.false := by kernel_rfl
theorem f_boolT_4 : boolT Try.prog 4 = Bool.true := by kernel_rfl
theorem f_boolT_42 : boolT Try.prog 42 = Bool.false := by kernel_rfl
theorem f_boolT_5 : boolT Try.prog 5 = Bool.false := by kernel_rfl
theorem f_fldT_24_0 : fldT Try.prog 24 0 = (Option.some 0) := by kernel_rfl
theorem f_fldT_24_1 : fldT Try.prog 24 1 = (Option.some 1) := by kernel_rfl
theorem f_fldT_24_2 : fldT Try.prog 24 2 = (Option.some 2) := by kernel_rfl
theorem f_fldT_24_3 : fldT Try.prog 24 3 = (Option.some 3) := by kernel_rfl
theorem f_fldT_24_4 : fldT Try.prog 24 4 = (Option.some 4) := by kernel_rfl
theorem f_fldT_24_5 : fldT Try.prog 24 5 = (Option.some 5) := by kernel_rfl
theorem f_fnOk_10 : fnOk Try.prog 10 = Bool.true := by kernel_rfl
theorem f_fnOk_11 : fnOk Try.prog 11 = Bool.true := by kernel_rfl
theorem f_fnOk_12 : fnOk Try.prog 12 = Bool.true := by kernel_rfl
theorem f_fnOk_13 : fnOk Try.prog 13 = Bool.true := by kernel_rfl
theorem f_fnOk_14 : fnOk Try.prog 14 = Bool.true := by kernel_rfl
theorem f_fnOk_15 : fnOk Try.prog 15 = Bool.true := by kernel_rfl
theorem f_fnOk_16 : fnOk Try.prog 16 = Bool.true := by kernel_rfl
theorem f_fnOk_17 : fnOk Try.prog 17 = Bool.true := by kernel_rfl
theorem f_fnOk_18 : fnOk Try.prog 18 = Bool.true := by kernel_rfl
theorem f_fnOk_19 : fnOk Try.prog 19 = Bool.true := by kernel_rfl
theorem f_fnOk_20 : fnOk Try.prog 20 = Bool.true := by kernel_rfl
theorem f_fnOk_21 : fnOk Try.prog 21 = Bool.true := by kernel_rfl
theorem f_fnOk_22 : fnOk Try.prog 22 = Bool.true := by kernel_rfl
theorem f_fnOk_23 : fnOk Try.prog 23 = Bool.true := by kernel_rfl
theorem f_fnOk_24 : fnOk Try.prog 24 = Bool.true := by kernel_rfl
theorem f_fnOk_25 : fnOk Try.prog 25 = Bool.true := by kernel_rfl
theorem f_fnOk_26 : fnOk Try.prog 26 = Bool.true := by kernel_rfl
theorem f_fnOk_27 : fnOk Try.prog 27 = Bool.true := by kernel_rfl
theorem f_fnOk_28 : fnOk Try.prog 28 = Bool.true := by kernel_rfl
theorem f_fnOk_9 : fnOk Try.prog 9 = Bool.true := by kernel_rfl
theorem f_hasT_37 : hasT Try.prog 37 = Bool.true := by kernel_rfl
theorem f_hasT_5 : hasT Try.prog 5 = Bool.true := by kernel_rfl
theorem f_intT_3 : intT Try.prog 3 = (Option.some Go.IntKind.i64) := by kernel_rfl
theorem f_intT_30 : intT Try.prog 30 = (Option.some Go.IntKind.i64) := by kernel_rfl
theorem f_intT_4 : intT Try.prog 4 = Option.none := by kernel_rfl
theorem f_intT_42 : intT Try.prog 42 = (Option.some Go.IntKind.i64) := by kernel_rfl
theorem f_intT_5 : intT Try.prog 5 = (Option.some Go.IntKind.u8) := by kernel_rfl
theorem f_ldT_22 : ldT Try.prog 22 = (Option.some Option.none) := by kernel_rfl
theorem f_ldT_24 : ldT Try.prog 24 = (Option.some (Option.some 6)) := by kernel_rfl
theorem f_ldT_3 : ldT Try.prog 3 = (Option.some Option.none) := by kernel_rfl
theorem f_ldT_4 : ldT Try.prog 4 = (Option.some Option.none) := by kernel_rfl
theorem f_placesT_24 : placesT Try.prog 24 = (Option.some ((0, 1) :: ((1, 1) :: ((2, 1) :: ((3, 1) :: ((4, 1) :: ((5, 1) :: []))))))) := by kernel_rfl
theorem f_slSz_22 : slSz Try.prog 22 = (Option.some 1) := by kernel_rfl
theorem f_slT_22 : slT Try.prog 22 = (Option.some (3, 1)) := by kernel_rfl
theorem f_slT_3 : slT Try.prog 3 = Option.none := by kernel_rfl
theorem f_slT_39 : slT Try.prog 39 = (Option.some (4, 1)) := by kernel_rfl
theorem f_strT_22 : strT Try.prog 22 = Bool.false := by kernel_rfl
theorem f_strT_3 : strT Try.prog 3 = Bool.false := by kernel_rfl
theorem f_strT_37 : strT Try.prog 37 = Bool.false := by kernel_rfl
theorem f_strT_39 : strT Try.prog 39 = Bool.false := by kernel_rfl
theorem f_strT_5 : strT Try.prog 5 = Bool.false := by kernel_rfl
theorem f_szT_22 : szT Try.prog 22 = (Option.some 1) := by kernel_rfl
theorem f_szT_24 : szT Try.prog 24 = (Option.some 6) := by kernel_rfl
theorem f_szT_3 : szT Try.prog 3 = (Option.some 1) := by kernel_rfl
theorem f_zeroC_24 : zeroC Try.prog 24 = (Option.some ((Go.AM.AV.int Go.IntKind.i64 0) :: ((Go.AM.AV.int Go.IntKind.i64 0) :: ((Go.AM.AV.int Go.IntKind.i64 0) :: ((Go.AM.AV.int Go.IntKind.i64 0) :: ((Go.AM.AV.nils 1) :: ((Go.AM.AV.int Go.IntKind.i64 0) :: []))))))) := by kernel_rfl

def ints (rs : List Int) : List (List AV) := rs.map fun r => [.int .i64 r]
theorem ints_length (rs : List Int) : (ints rs).length = rs.length := by simp [ints]
theorem ints_nil : AV.list 1 [] = AV.list 1 (ints []) := rfl
abbrev sync (a b k o : Int) (rs : List Int) (n : Int) : AV := .agg [.int .i64 a, .int .i64 b, .int .i64 k, .int .i64 o, .list 1 (ints rs), .int .i64 n]
structure S where
  a : Int
  b : Int
  k : Int
  o : Int
  rs : List Int
  n : Int
def S.av (x : S) : AV := .agg [.int .i64 x.a, .int .i64 x.b, .int .i64 x.k, .int .i64 x.o, .list 1 (ints x.rs), .int .i64 x.n]
def zS : S := ⟨0, 0, 0, 0, [], 0⟩
def newG (a b : Int) : S := ⟨a, b, 3, -1, [], 0⟩
def newO (a b : Int) : S := ⟨a, b, 4, -1, [], 0⟩
def valid (a b k o : Int) (rs : List Int) (n : Int) : Bool :=
  decide (0 ≤ a ∧ 0 ≤ b ∧ rs.length = 0 ∧ 0 ≤ n ∧ ((k = 3 ∧ o = -1 ∧ n ≤ 4611686018427387904) ∨ (k = 4 ∧ -1 ≤ o ∧ o < 8 ∧ n ≤ 1 ∧ (o = -1 ∨ n = 0))))
def canWait (k n : Int) : Bool := decide (k = 3 ∧ n = 0)
def onceOf (k o n : Int) : Int := if k = 4 then (if 0 ≤ o then 1 else if n = 1 then 2 else 0) else 0
def add (a b k o : Int) (rs : List Int) (n d : Int) : S × Int :=
  if k = 3 ∧ valid a b k o rs n = true then (if 0 ≤ n + d ∧ n + d ≤ 4611686018427387904 then (⟨a, b, k, o, [], n + d⟩, 0) else (zS, 11)) else (zS, 1)
def begin_ (a b k o : Int) (rs : List Int) (n d : Int) : S × Int :=
  if k = 4 ∧ valid a b k o rs n = true ∧ 0 ≤ d ∧ d < 8 then (if onceOf k o n = 0 then (⟨a, b, k, d, [], n⟩, 0) else (zS, 11)) else (zS, 1)
def end_ (a b k o : Int) (rs : List Int) (n : Int) : S × Int :=
  if k = 4 ∧ valid a b k o rs n = true then (if onceOf k o n = 1 then (⟨a, b, k, -1, [], 1⟩, 0) else (zS, 11)) else (zS, 1)
def same (a b k o : Int) (rs : List Int) (n : Int) (a' b' k' o' : Int) (rs' : List Int) (n' : Int) : Bool := decide (a = a' ∧ b = b' ∧ k = k' ∧ o = o' ∧ n = n' ∧ rs = rs')
theorem wr (n : Int) (h : -9223372036854775808 ≤ n) (h' : n < 9223372036854775808) : IntKind.wrap .i64 n = n := by
  rw [IntKind.wrap_i64]; omega
theorem valid_n {a b k o : Int} {rs : List Int} {n : Int} (h : valid a b k o rs n = true) : 0 ≤ n ∧ n ≤ 4611686018427387904 := by
  simp only [valid, decide_eq_true_eq] at h; omega
theorem valid_rs {a b k o : Int} {rs : List Int} {n : Int} (h : valid a b k o rs n = true) : rs = [] := by
  simp only [valid, decide_eq_true_eq] at h; exact List.eq_nil_of_length_eq_zero h.2.2.1
end Go.Ga
