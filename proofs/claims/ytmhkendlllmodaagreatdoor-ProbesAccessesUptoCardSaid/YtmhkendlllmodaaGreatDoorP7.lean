/- Texts of a proof by an abstract machine over the model. -/
import Derived.Test.YtmhkendlllmodaaGreatDoorP3
import Derived.Test.YtmhkendlllmodaaGreatDoorProg
import Derived.Shelf.Spec.TrailingZeros
import Derived.Shelf.SlIterI.Collect
import Derived.Test.YtmhkendlllmodaaGreatDoorP4
import Derived.KernelRfl
import Derived.Shelf.Slices.Clone
import Derived.Shelf.Slices.CompactS
import Derived.Shelf.Slices.Turned
import Derived.Shelf.Slices.In.SortNone
import Derived.Shelf.Sort.Plain
import Derived.Lib.OwnBridge
import Derived.Sort.OwnSorted
import Derived.Sort.Grow
set_option linter.unusedSimpArgs false
set_option linter.unusedVariables false
namespace Go.Gc
open Go Go.FM Go.RowKit Go.Proofs Go.Shelf Go.Maps

/-! ### math/bits.TrailingZeros64 -/
def tzR : Ren := ⟨fun _ => 79, fun n => match n with | 0 => 0 | 3 => 3 | 4 => 4 | 5 => 5 | 22 => 129 | 25 => 158 | 54 => 170 | _ => 0, fun _ => 0⟩
theorem tzL : Lays7.n29 Tryz.prog tzR where
  mixed := by kernel_rfl
  f29 := by kernel_rfl
  t0 := by kernel_rfl
  a0 := fun w => by kernel_rfl
  z0 := fun w => by kernel_rfl
  v0 := fun w => by kernel_rfl
  i0 := by kernel_rfl
  t3 := by kernel_rfl
  a3 := fun w => by kernel_rfl
  z3 := fun w => by kernel_rfl
  v3 := fun w => by kernel_rfl
  i3 := by kernel_rfl
  t4 := by kernel_rfl
  a4 := fun w => by kernel_rfl
  z4 := fun w => by kernel_rfl
  v4 := fun w => by kernel_rfl
  i4 := by kernel_rfl
  t5 := by kernel_rfl
  a5 := fun w => by kernel_rfl
  z5 := fun w => by kernel_rfl
  v5 := fun w => by kernel_rfl
  i5 := by kernel_rfl
  t22 := by kernel_rfl
  a22 := fun w => by kernel_rfl
  z22 := fun w => by kernel_rfl
  v22 := fun w => by kernel_rfl
  i22 := by kernel_rfl
  t25 := by kernel_rfl
  a25 := fun w => by kernel_rfl
  z25 := fun w => by kernel_rfl
  v25 := fun w => by kernel_rfl
  i25 := by kernel_rfl
  t54 := by kernel_rfl
  a54 := fun w => by kernel_rfl
  z54 := fun w => by kernel_rfl
  g1 := by kernel_rfl
/-- the package variables that the text reads -/
def tzV (n : Nat) : Value := .int .u8 (n : Int)
def Gl : List (Nat × List Value) := [(0, Lib.deBruijn64tab.map tzV)]
theorem tz_fc (x : Nat) (hx : x < 18446744073709551616) (H : Heap) : FC Tryz.prog Gl 79 [.int .u64 x] H (.int .i64 (Lib.ctz 64 x)) H := by
  refine FC_below fun w F m vs hF hG hv hH => ?_
  cases hv with
  | cons _ v _ vs h1 h2 =>
  cases h2
  cases h1
  refine (Any7.bits_TrailingZeros64 tzL x hx w fun _ j hj => ?_).mono ?_
  · obtain ⟨_, _, h⟩ := hG (0, Lib.deBruijn64tab.map tzV) (by simp [Gl])
    refine h j _ ?_
    rw [List.getElem?_map, List.getElem?_eq_getElem hj, List.getD_eq_getElem?_getD, List.getElem?_eq_getElem hj]
    rfl
  · rintro e w' ⟨rfl, rfl⟩
    exact ⟨_, rfl, Below.refl _ _, .int _ _⟩

/-! ### slices.AppendSeq over maps.Keys of a set -/
def kR : Ren := ⟨fun n => match n with | 10 => 118 | _ => 117, fun n => match n with | 0 => 0 | 4 => 4 | 23 => 112 | 26 => 3 | 3 => 117 | 33 => 52 | 24 => 53 | 28 => 115 | _ => 0, fun _ => 0⟩
theorem kL10 : SlLaysZI.n10 Tryz.prog kR where
  mixed := by kernel_rfl
  f10 := ⟨Tryz.f118.name, by kernel_rfl, by kernel_rfl⟩
  t0 := by kernel_rfl
  a0 := fun w => by kernel_rfl
  z0 := fun w => by kernel_rfl
  v0 := fun w => by kernel_rfl
  t4 := by kernel_rfl
  a4 := fun w => by kernel_rfl
  z4 := fun w => by kernel_rfl
  v4 := fun w => by kernel_rfl
  t23 := by kernel_rfl
  a23 := fun w => by kernel_rfl
  z23 := fun w => by kernel_rfl
  v23 := fun w => by kernel_rfl
  t26 := by kernel_rfl
  a26 := fun w => by kernel_rfl
  z26 := fun w => by kernel_rfl
  v26 := fun w => by kernel_rfl
  t33 := by kernel_rfl
  a33 := fun w => by kernel_rfl
  z33 := fun w => by kernel_rfl
  v33 := fun w => by kernel_rfl
theorem kL11 : SlLaysZI.n11 Tryz.prog kR where
  mixed := by kernel_rfl
  f11 := ⟨Tryz.f117.name, by kernel_rfl, by kernel_rfl⟩
  t0 := by kernel_rfl
  a0 := fun w => by kernel_rfl
  z0 := fun w => by kernel_rfl
  v0 := fun w => by kernel_rfl
  t24 := by kernel_rfl
  a24 := fun w => by kernel_rfl
  z24 := fun w => by kernel_rfl
  v24 := fun w => by kernel_rfl
  t26 := by kernel_rfl
  a26 := fun w => by kernel_rfl
  z26 := fun w => by kernel_rfl
  v26 := fun w => by kernel_rfl
  t28 := by kernel_rfl
  a28 := fun w => by kernel_rfl
  z28 := fun w => by kernel_rfl
  v28 := fun w => by kernel_rfl
  i26 := by kernel_rfl

theorem appendSeq_calls {w : World} {Bm b nn : Nat} {D0 : DataW Unit} {R : Value → Option (DataW Unit × List MemPlace)} (hBm : Bm < w.heap.size) (hm : w.cell? ⟨Bm, 0, none⟩ = some (.map (some b))) (hown : w.ownsMap Tryz.prog 3 R b nn D0) (hmax : Maps.size D0 ≤ maxLen) (hb : Maps.size D0 * 8 ≤ 140737488355328) :
    Calls Tryz.prog 117 #[.slice none 0 0, .func (.func 118) #[] #[.pointer (some ⟨Bm, 0, none⟩)]] w fun e w' => ∃ (v : Value) (ss : List Int), e = .returned v ∧ ss.Perm (intKeys D0) ∧ w'.ownsRow w.heap.size 3 1 v ss.length (ss.map encZ) ∧ (v = .slice none 0 0 ↔ ss = []) ∧ Below w.heap.size w w' := by
  refine (callsIn_wide (n := 6)).1 ?_
  have hseq : SeqGives Fence.wide 5 Tryz.prog 118 #[.pointer (some ⟨Bm, 0, none⟩)] encZ (fun ss => ss.Perm (intKeys D0)) (Maps.size D0) w :=
    AnyZI.keys_gives (ρ := kR) kL10 Fence.wide 5 trivial rfl (by omega) Bm b nn D0 w hBm hm hown
  exact AnyZI.appendSeq_in (ρ := kR) kL11 Fence.wide 6 trivial rfl (by omega) 118 _ trivial (enters_of (c := _) (show Tryz.prog.funcs[118]? = some Tryz.f118 by kernel_rfl) (by kernel_rfl) rfl) _ _ hmax hb w hseq
/-- what is told of a map's values here: nothing -/
def noR : Value → Option (DataW Unit × List MemPlace) := fun _ => some (.nil, [])
theorem own1 {w : World} {b : Nat} {x : MapEntry} {a : Int} {clk : Nat} (h : w.heap[b]? = some (.map #[x] clk)) (hk : x.key = .int .i64 a) (hw : (Lit.int .i64 a).wf = true) (hb : x.born < clk) : w.ownsMap Tryz.prog 3 noR b 1 (.map [(.int .i64 a, .nil)]) := by
  have hrd : Go.WideElems.rd Tryz.prog 3 noR x = some (.int .i64 a, .nil) := by
    have : keyOf Tryz.prog 3 x.key = some (.int .i64 a) := by rw [hk]; exact keyOf_int_mk kL10.t26 hw
    simp [Go.WideElems.rd, this, noR]
  refine ⟨#[x], clk, h, ⟨by simp [maxLen], by simp [MapKept.Stamped, hb], fun y hy => ?_⟩, by simp, ?_⟩
  · have : y = x := by simpa using hy
    subst this
    exact ⟨_, hrd⟩
  · simp [Go.WideElems.rg, hrd, DataW.insert]
theorem own0 {w : World} {b : Nat} {clk : Nat} (h : w.heap[b]? = some (.map #[] clk)) : w.ownsMap Tryz.prog 3 noR b 0 (.map []) :=
  ⟨#[], clk, h, ⟨by decide, by simp [MapKept.Stamped], fun y hy => by simp at hy⟩, by simp, rfl⟩
theorem keys0_fc {H : Heap} {l k : FM.Loc} {T : TypeId} {clk : Nat} (hl : H l = some (.cells T 1 [[.mp k]])) (hk : H k = some (.map [] clk)) : FC Tryz.prog Gl 117 [.nils, .clo 118 [] [.ptr l 1 0 0]] H .nils H := by
  refine FC_below fun w F m vs hF hG hv hH => ?_
  cases hv with
  | cons _ v1 _ vs h1 h2 =>
  cases h2 with
  | cons _ v2 _ vs h2 h3 =>
  cases h3
  cases h1
  cases h2 with
  | clo _ _ _ us vs g1 g2 =>
  cases g1
  obtain ⟨v, rfl, g⟩ := g2.single
  cases g
  obtain ⟨_, h0, c, ws, q1, q2, q3, q4, q5⟩ := row_at (i := 0) (x := [.mp k]) hH hl rfl
  obtain ⟨u, rfl, r⟩ := q4.single
  cases r
  obtain ⟨hk0, ar, k1, k2⟩ := hH.obj _ _ hk
  have har : ar = #[] := by
    cases hq : ar.toList with
    | nil => exact Array.ext' hq
    | cons _ _ => rw [hq] at k2; cases k2
  subst har
  have hcell : w.cell? ⟨(m l).1, 0, none⟩ = some (.map (some (m k).1)) := by
    rw [cell_blk q1]
    have := q5 0 (by omega)
    simpa using this.symm
  refine (appendSeq_calls (hH.old l ⟨_, hl, by simp, h0⟩).1 hcell (own0 k1) (by decide) (by decide)).mono ?_
  rintro e w' ⟨v, ss, rfl, hp, hrow, hnil, hb⟩
  have hss : ss = [] := by simpa [intKeys] using hp
  exact ⟨v, rfl, hb, by rw [hnil.2 hss]; exact .nils⟩
theorem keys1_fc {H : Heap} {l k nm : FM.Loc} {T : TypeId} {clk born : Nat} {a : Int} {v0 : FV} (hl : H l = some (.cells T 1 [[.mp k]])) (hk : H k = some (.map [(.int .i64 a, v0, born)] clk)) (hw : (Lit.int .i64 a).wf = true) (hb : born < clk) (hnm : H nm = none) :
    FC Tryz.prog Gl 117 [.nils, .clo 118 [] [.ptr l 1 0 0]] H (.sl nm 1 0 1) (upd H nm (.cells 3 1 [[.int .i64 a]])) := by
  refine FC_row hnm (by decide) fun w F m vs hF hG hv hH => ?_
  cases hv with
  | cons _ v1 _ vs h1 h2 =>
  cases h2 with
  | cons _ v2 _ vs h2 h3 =>
  cases h3
  cases h1
  cases h2 with
  | clo _ _ _ us vs g1 g2 =>
  cases g1
  obtain ⟨v, rfl, g⟩ := g2.single
  cases g
  obtain ⟨_, h0, c, ws, q1, q2, q3, q4, q5⟩ := row_at (i := 0) (x := [.mp k]) hH hl rfl
  obtain ⟨u, rfl, r⟩ := q4.single
  cases r
  obtain ⟨hk0, ar, k1, k2⟩ := hH.obj _ _ hk
  obtain ⟨x, har, hre⟩ : ∃ x, ar = #[x] ∧ RE w F (fun l => H l ≠ none) m (.int .i64 a, v0, born) x := by
    cases hq : ar.toList with
    | nil => rw [hq] at k2; cases k2
    | cons x xs => rw [hq] at k2; cases k2 with
      | cons _ _ _ _ p q => cases q; exact ⟨x, Array.ext' hq, p⟩
  subst har
  have hcell : w.cell? ⟨(m l).1, 0, none⟩ = some (.map (some (m k).1)) := by
    rw [cell_blk q1]
    have := q5 0 (by omega)
    simpa using this.symm
  have hkey : x.key = .int .i64 a := by have := hre.key; generalize x.key = y at this; cases this; rfl
  refine (appendSeq_calls (hH.old l ⟨_, hl, by simp, h0⟩).1 hcell (own1 k1 hkey hw (by rw [hre.born]; exact hb)) (by simp [Maps.size, maxLen]) (by simp [Maps.size])).mono ?_
  rintro e w' ⟨v, ss, rfl, hp, hrow, hnil, hb⟩
  have hss : ss = [a] := by simpa [intKeys, intOf] using hp
  subst hss
  obtain ⟨_, ⟨_, h⟩ | ⟨g, cap, cur, rfl, hg, hgc, hn, hmx, hcs, htk⟩⟩ := hrow
  · simp at h
  · have hcap : 0 < cap := by simp at hn; omega
    refine ⟨g, cap, cur, rfl, hb, hg, hgc, hn, hcs, hcap, by simp, by simp; omega, ?_⟩
    simp only [List.length_cons, List.length_nil, Nat.zero_add, Nat.one_mul, Nat.mul_one, List.flatten_cons, List.flatten_nil, List.append_nil] at htk ⊢
    rw [htk]
    exact .cons _ _ _ _ (.int _ _) .nil
end Go.Gc
namespace Go.Gc
open Go Go.FM Go.Proofs
set_option maxRecDepth 100000
set_option maxHeartbeats 4000000

theorem t_mix : Tryz.prog.follows .mixedOrders = true := by kernel_rfl
theorem f_Program_eqGuardType_Program_depth_3 : Program.eqGuardType Tryz.prog (Program.depth Tryz.prog) 3 = Bool.false := by kernel_rfl
theorem f_Program_eqGuardType_Program_depth_46 : Program.eqGuardType Tryz.prog (Program.depth Tryz.prog) 46 = Bool.false := by kernel_rfl
theorem f_arT_29 : arT Tryz.prog 29 = Option.none := by kernel_rfl
theorem f_arT_35 : arT Tryz.prog 35 = Option.none := by kernel_rfl
theorem f_arT_37 : arT Tryz.prog 37 = Option.none := by kernel_rfl
theorem f_boolT_3 : boolT Tryz.prog 3 = Bool.false := by kernel_rfl
theorem f_boolT_46 : boolT Tryz.prog 46 = Bool.false := by kernel_rfl
theorem f_byT_33 : byT Tryz.prog 33 = (Option.some 16) := by kernel_rfl
theorem f_byT_42 : byT Tryz.prog 42 = (Option.some 32) := by kernel_rfl
theorem f_byT_46 : byT Tryz.prog 46 = (Option.some 72) := by kernel_rfl
theorem f_fldT_33_0 : fldT Tryz.prog 33 0 = (Option.some 0) := by kernel_rfl
theorem f_fldT_33_1 : fldT Tryz.prog 33 1 = (Option.some 1) := by kernel_rfl
theorem f_fldT_42_0 : fldT Tryz.prog 42 0 = (Option.some 0) := by kernel_rfl
theorem f_fldT_42_1 : fldT Tryz.prog 42 1 = (Option.some 1) := by kernel_rfl
theorem f_fldT_42_2 : fldT Tryz.prog 42 2 = (Option.some 2) := by kernel_rfl
theorem f_fldT_46_1 : fldT Tryz.prog 46 1 = (Option.some 1) := by kernel_rfl
theorem f_fldT_46_6 : fldT Tryz.prog 46 6 = (Option.some 6) := by kernel_rfl
theorem f_fldT_46_7 : fldT Tryz.prog 46 7 = (Option.some 7) := by kernel_rfl
theorem f_fnOk_15 : fnOk Tryz.prog 15 = Bool.true := by kernel_rfl
theorem f_fnOk_16 : fnOk Tryz.prog 16 = Bool.true := by kernel_rfl
theorem f_fnOk_17 : fnOk Tryz.prog 17 = Bool.true := by kernel_rfl
theorem f_fnOk_30 : fnOk Tryz.prog 30 = Bool.true := by kernel_rfl
theorem f_fnOk_7 : fnOk Tryz.prog 7 = Bool.true := by kernel_rfl
theorem f_intT_3 : intT Tryz.prog 3 = (Option.some Go.IntKind.i64) := by kernel_rfl
theorem f_intT_46 : intT Tryz.prog 46 = Option.none := by kernel_rfl
theorem f_kdT_3 : kdT Tryz.prog 3 = (Option.some (Go.FM.Kd.int Go.IntKind.i64)) := by kernel_rfl
theorem f_kdT_33 : kdT Tryz.prog 33 = Option.none := by kernel_rfl
theorem f_kdT_46 : kdT Tryz.prog 46 = Option.none := by kernel_rfl
theorem f_ldT_3 : ldT Tryz.prog 3 = (Option.some Option.none) := by kernel_rfl
theorem f_ldT_42 : ldT Tryz.prog 42 = (Option.some (Option.some 4)) := by kernel_rfl
theorem f_ldT_46 : ldT Tryz.prog 46 = (Option.some (Option.some 9)) := by kernel_rfl
theorem f_mpT_70 : mpT Tryz.prog 70 = (Option.some (33, 4)) := by kernel_rfl
theorem f_nilT_3 : nilT Tryz.prog 3 = Option.none := by kernel_rfl
theorem f_nilT_46 : nilT Tryz.prog 46 = Option.none := by kernel_rfl
theorem f_placesT_33 : placesT Tryz.prog 33 = (Option.some ((0, 1) :: ((1, 1) :: []))) := by kernel_rfl
theorem f_placesT_42 : placesT Tryz.prog 42 = (Option.some ((0, 1) :: ((1, 1) :: ((2, 1) :: ((3, 1) :: []))))) := by kernel_rfl
theorem f_slT_29 : slT Tryz.prog 29 = (Option.some (33, 2)) := by kernel_rfl
theorem f_slT_35 : slT Tryz.prog 35 = (Option.some (42, 4)) := by kernel_rfl
theorem f_slT_37 : slT Tryz.prog 37 = (Option.some (46, 9)) := by kernel_rfl
theorem f_stT_3 : stT Tryz.prog 3 = Option.none := by kernel_rfl
theorem f_stT_33 : stT Tryz.prog 33 = (Option.some ((Go.FM.Kd.int Go.IntKind.i64) :: ((Go.FM.Kd.int Go.IntKind.i64) :: []))) := by kernel_rfl
theorem f_stT_46 : stT Tryz.prog 46 = (Option.some ((Go.FM.Kd.int Go.IntKind.i64) :: ((Go.FM.Kd.int Go.IntKind.i64) :: ((Go.FM.Kd.int Go.IntKind.i64) :: ((Go.FM.Kd.int Go.IntKind.i64) :: ((Go.FM.Kd.int Go.IntKind.i64) :: ((Go.FM.Kd.int Go.IntKind.i64) :: ((Go.FM.Kd.int Go.IntKind.i64) :: ((Go.FM.Kd.int Go.IntKind.i64) :: ((Go.FM.Kd.int Go.IntKind.i64) :: [])))))))))) := by kernel_rfl
theorem f_strT_29 : strT Tryz.prog 29 = Bool.false := by kernel_rfl
theorem f_strT_35 : strT Tryz.prog 35 = Bool.false := by kernel_rfl
theorem f_strT_37 : strT Tryz.prog 37 = Bool.false := by kernel_rfl
theorem f_szT_42 : szT Tryz.prog 42 = (Option.some 4) := by kernel_rfl
theorem f_szT_46 : szT Tryz.prog 46 = (Option.some 9) := by kernel_rfl
theorem f_zeroC_33 : zeroC Tryz.prog 33 = (Option.some ((Go.FM.FV.int Go.IntKind.i64 0) :: ((Go.FM.FV.int Go.IntKind.i64 0) :: []))) := by kernel_rfl
theorem f_zeroC_42 : zeroC Tryz.prog 42 = (Option.some ((Go.FM.FV.int Go.IntKind.i64 0) :: ((Go.FM.FV.int Go.IntKind.i64 0) :: ((Go.FM.FV.int Go.IntKind.i64 0) :: ((Go.FM.FV.int Go.IntKind.i64 0) :: []))))) := by kernel_rfl
theorem f_zeroC_46 : zeroC Tryz.prog 46 = (Option.some ((Go.FM.FV.int Go.IntKind.i64 0) :: ((Go.FM.FV.int Go.IntKind.i64 0) :: ((Go.FM.FV.int Go.IntKind.i64 0) :: ((Go.FM.FV.int Go.IntKind.i64 0) :: ((Go.FM.FV.int Go.IntKind.i64 0) :: ((Go.FM.FV.int Go.IntKind.i64 0) :: ((Go.FM.FV.int Go.IntKind.i64 0) :: ((Go.FM.FV.int Go.IntKind.i64 0) :: ((Go.FM.FV.int Go.IntKind.i64 0) :: [])))))))))) := by kernel_rfl
theorem f_zeroV_4 : zeroV Tryz.prog 4 = (Option.some (Go.FM.FV.bool Bool.false)) := by kernel_rfl

theorem wr (n : Int) (h : -9223372036854775808 ≤ n) (h' : n < 9223372036854775808) : IntKind.wrap .i64 n = n := by
  rw [IntKind.wrap_i64]; omega
theorem wr_inc {i : Nat} {m : Nat} (h : i < m) (hm : m ≤ 1000000000) : IntKind.wrap .i64 ((i : Int) + 1) = ((i + 1 : Nat) : Int) := by rw [wr _ (by omega) (by omega)]; omega
end Go.Gc
namespace Go.Gc
open Go Go.FM Go.Proofs
set_option maxRecDepth 100000
set_option maxHeartbeats 4000000
/-- an event -/
structure Ev where
  g : Int
  kind : Int
  obj : Int
  off : Int
  k : Int
  n : Int
  fn : Int
  pc : Int
  st : Int
  deriving DecidableEq
def Ev.row (e : Ev) : List FV := [.int .i64 e.g, .int .i64 e.kind, .int .i64 e.obj, .int .i64 e.off, .int .i64 e.k, .int .i64 e.n, .int .i64 e.fn, .int .i64 e.pc, .int .i64 e.st]
def evs (L : List Ev) : List (List FV) := L.map Ev.row
/-- a probe -/
structure Pb where
  fn : Int
  pc : Int
  reason : Int
  by_ : Int
  deriving DecidableEq
def Pb.row (e : Pb) : List FV := [.int .i64 e.fn, .int .i64 e.pc, .int .i64 e.reason, .int .i64 e.by_]
def pbs (L : List Pb) : List (List FV) := L.map Pb.row
theorem evs_length (L : List Ev) : (evs L).length = L.length := by simp [evs]
theorem pbs_length (L : List Pb) : (pbs L).length = L.length := by simp [pbs]
theorem evs_at {L : List Ev} {i : Nat} (h : i < (evs L).length) : (evs L)[i] = (L[i]'(by rwa [evs_length] at h)).row := by simp [evs]
theorem pbs_at {L : List Pb} {i : Nat} (h : i < (pbs L).length) : (pbs L)[i] = (L[i]'(by rwa [pbs_length] at h)).row := by simp [pbs]
theorem nlss_evs (L : List Ev) : nlss (evs L) = true := by
  induction L with
  | nil => rfl
  | cons r rs ih => simpa [evs, nlss, nls, nl, Ev.row] using ih
theorem nlss_pbs (L : List Pb) : nlss (pbs L) = true := by
  induction L with
  | nil => rfl
  | cons r rs ih => simpa [pbs, nlss, nls, nl, Pb.row] using ih
theorem nat_inj (m n : Nat) : ((m : Int) = (n : Int)) = (m = n) := by rw [Int.ofNat_inj]
theorem take_step {α : Type} {rs rs' : List α} {i : Nat} (h1 : i < rs.length) (h2 : i < rs'.length) (ht : rs.take i = rs'.take i) (he : rs[i] = rs'[i]) : rs.take (i + 1) = rs'.take (i + 1) := by
  rw [List.take_add_one, List.take_add_one, ht]
  simp only [List.getElem?_eq_getElem h1, List.getElem?_eq_getElem h2, he]
theorem Ev.ext9 (a b : Ev) : (a.g = b.g ∧ a.kind = b.kind ∧ a.obj = b.obj ∧ a.off = b.off ∧ a.k = b.k ∧ a.n = b.n ∧ a.fn = b.fn ∧ a.pc = b.pc ∧ a.st = b.st) ↔ a = b := by
  cases a; cases b; simp
theorem c31 (a b c : Int) : PC Tryz.prog Gl 31 [.int .i64 a, .int .i64 b, .int .i64 c] (.bool (decide (b ≤ a ∧ a ≤ c))) := by
  refine PC_go (res := [.tmp 6]) 7 15 [] (fun d ix => d :: ix) (fn := Tryz.f31) (by kernel_rfl) (by rfl) (by rfl) (by rfl) (by simp) (by decide) ?_
  repeat' first
    | with_reducible refine aw_sq ?_
    | with_reducible refine aw_blk ?_
    | with_reducible refine aw_reg fun K hK => ?_
    | with_reducible refine aw_skip ?_
    | with_reducible refine aw_ret ?_
    | with_reducible refine aw_exit ?_
    | with_reducible refine aw_cnd fun T E hT hE => ?_
    | with_reducible refine kseq ?_
    | with_reducible refine kseq_r ?_
    | with_reducible refine kseq_e ?_
    | with_reducible refine kblk ?_
    | with_reducible refine kblk_r ?_
    | with_reducible refine kblk_hit ?_
    | with_reducible refine kblk_miss rfl ?_
    | with_reducible refine kloop_r ?_
    | with_reducible refine kloop_e ?_
    | with_reducible refine pfin_r ?_
    | with_reducible refine pfin_n ?_
    | with_reducible refine nfin_r ?_
    | with_reducible refine nfin_n ?_
    | with_reducible refine gop_t ?_
    | with_reducible refine gop_f ?_
    | with_reducible refine cond_t ?_
    | with_reducible refine cond_f ?_
    | with_reducible refine gsplit_nd (fun h => ?_) (fun h => ?_)
    | with_reducible refine gsplit_d (fun h => ?_) (fun h => ?_)
    | with_reducible refine hgsplit_nd (fun h => ?_) (fun h => ?_)
    | with_reducible refine hgsplit_d (fun h => ?_) (fun h => ?_)
    | with_reducible refine cond_nd (fun h => ?_) (fun h => ?_)
    | with_reducible refine cond_d (fun h => ?_) (fun h => ?_)
    | with_reducible refine gsplit_n (fun h => ?_) (fun h => ?_)
    | with_reducible refine gsplit (fun h => ?_) (fun h => ?_)
    | with_reducible refine hgsplit_n (fun h => ?_) (fun h => ?_)
    | with_reducible refine hgsplit (fun h => ?_) (fun h => ?_)
    | with_reducible refine cond_n (fun h => ?_) (fun h => ?_)
    | with_reducible refine cond_b (fun h => ?_) (fun h => ?_)
    | with_reducible refine hnx_go rfl (by decide) fresh_noH ?_
    | with_reducible refine hnx_go rfl (by decide) (fresh_upd (by simp [upd, noH, ext, hpL_at, hpL_nil, *])) ?_
    | with_reducible refine awH_go (by decide) (by kernel_rfl) ?_
    | with_reducible refine awH_tail (by decide) ?_
    | (with_reducible refine Kont.go hK ?_; clear hK K)
    | (with_reducible refine KT.go hT ?_; clear hT hE T E)
    | (with_reducible refine KT.go hE ?_; clear hT hE T E)
    | simp [*, -List.all_flatten, -List.all_eq_true, ext_noH, FS.init, FS.get, FS.put, FS.clean, lk, upd, ext, noH, cv1, cv, rv, FV.isU, FV.cellV, FV.cellsL, FV.storable, fLoad, fField, fIndex, fLen, fBin, fUn, fConv, natOf, fSlice, setFrom, fillA, pv, pv1, pv2, wv, wAlloc, wBox, wStore, wBuildS, wMakeS, wMakeM, wMapU, wApp, srcA, chunks, upds, List.foldl_cons, List.foldl_nil, fLook, fNil, fUn2, fBits, fCmp, fCmpB, eqK, eqCells, eqV, FV.kd, eqNil, nilV, putD, fStep, callee?, guardV, keepT, lastDst, condV, resV, resL, tupOf, StK, wOps_nil, wOps_cons, GOp_t, GOp_f, DoOp_n, DoOp_c, hMake, HG_t, HG_f, HDo_n, HDo_c, nl, nls, nlss, frz, frzs, frzR, asR, asRs, Fend, PFin_s, frzRes_s, frzNRes_s, frzN, nf, nfs, hpL_at, hpL_nil, keyOk, f_Program_eqGuardType_Program_depth_3, f_boolT_3, f_byT_33, f_byT_42, f_byT_46, f_intT_3, f_kdT_3, f_kdT_33, f_kdT_46, f_nilT_3, f_stT_3, f_stT_33, f_stT_46, f_zeroC_33, f_zeroC_42, f_zeroC_46, f_zeroV_4]
  all_goals (simp_all)

end Go.Gc
namespace Go.Gc
open Go Go.RowKit Go.Proofs Go.Shelf
/-! ### the library functions that unique calls, at this program -/
def uR1 : Ren := ⟨fun n => match n with | 16 => 62 | _ => 0, fun n => match n with | 24 => 76 | 9 => 9 | 4 => 4 | _ => 0, fun _ => 0⟩
theorem uL1 : Lays2.n16 Tryz.prog uR1 where
  mixed := by kernel_rfl
  f16 := by kernel_rfl
  t4 := by kernel_rfl
  a4 := fun w => by kernel_rfl
  z4 := fun w => by kernel_rfl
  v4 := fun w => by kernel_rfl
  t9 := by kernel_rfl
  a9 := fun w => by kernel_rfl
  z9 := fun w => by kernel_rfl
  v9 := fun w => by kernel_rfl
  t24 := by kernel_rfl
  a24 := fun w => by kernel_rfl
  z24 := fun w => by kernel_rfl
  v24 := fun w => by kernel_rfl
  i9 := by kernel_rfl
def uR2 : Ren := ⟨fun n => match n with | 190 => 63 | 125 => 111 | 258 => 110 | 128 => 154 | 129 => 155 | 302 => 145 | 303 => 146 | 304 => 147 | 305 => 148 | 306 => 149 | 307 => 150 | 308 => 151 | 309 => 152 | 310 => 153 | 333 => 183 | 329 => 184 | 330 => 185 | 334 => 186 | 335 => 187 | 336 => 188 | 344 => 196 | _ => 0, fun n => match n with | 31 => 76 | 9 => 9 | 3 => 3 | 46 => 158 | 0 => 0 | 51 => 193 | 53 => 129 | 4 => 4 | 183 => 186 | 182 => 185 | 131 => 65 | 5 => 5 | 218 => 212 | 222 => 216 | 228 => 222 | 229 => 223 | _ => 0, fun _ => 0⟩
theorem uL2 : Lays.n190 Tryz.prog uR2 where
  mixed := by kernel_rfl
  f125 := by kernel_rfl
  f128 := by kernel_rfl
  f129 := by kernel_rfl
  f190 := by kernel_rfl
  f258 := by kernel_rfl
  f302 := by kernel_rfl
  f303 := by kernel_rfl
  f304 := by kernel_rfl
  f305 := by kernel_rfl
  f306 := by kernel_rfl
  f307 := by kernel_rfl
  f308 := by kernel_rfl
  f309 := by kernel_rfl
  f310 := by kernel_rfl
  f329 := by kernel_rfl
  f330 := by kernel_rfl
  f333 := by kernel_rfl
  f334 := by kernel_rfl
  f335 := by kernel_rfl
  f336 := by kernel_rfl
  f344 := by kernel_rfl
  t0 := by kernel_rfl
  a0 := fun w => by kernel_rfl
  z0 := fun w => by kernel_rfl
  v0 := fun w => by kernel_rfl
  t3 := by kernel_rfl
  a3 := fun w => by kernel_rfl
  z3 := fun w => by kernel_rfl
  v3 := fun w => by kernel_rfl
  t4 := by kernel_rfl
  a4 := fun w => by kernel_rfl
  z4 := fun w => by kernel_rfl
  v4 := fun w => by kernel_rfl
  t5 := by kernel_rfl
  a5 := fun w => by kernel_rfl
  z5 := fun w => by kernel_rfl
  v5 := fun w => by kernel_rfl
  t9 := by kernel_rfl
  a9 := fun w => by kernel_rfl
  z9 := fun w => by kernel_rfl
  v9 := fun w => by kernel_rfl
  t31 := by kernel_rfl
  a31 := fun w => by kernel_rfl
  z31 := fun w => by kernel_rfl
  v31 := fun w => by kernel_rfl
  t46 := by kernel_rfl
  a46 := fun w => by kernel_rfl
  z46 := fun w => by kernel_rfl
  v46 := fun w => by kernel_rfl
  t51 := by kernel_rfl
  a51 := fun w => by kernel_rfl
  z51 := fun w => by kernel_rfl
  v51 := fun w => by kernel_rfl
  t53 := by kernel_rfl
  a53 := fun w => by kernel_rfl
  z53 := fun w => by kernel_rfl
  v53 := fun w => by kernel_rfl
  t131 := by kernel_rfl
  a131 := fun w => by kernel_rfl
  z131 := fun w => by kernel_rfl
  v131 := fun w => by kernel_rfl
  t182 := by kernel_rfl
  a182 := fun w => by kernel_rfl
  z182 := fun w => by kernel_rfl
  v182 := fun w => by kernel_rfl
  t183 := by kernel_rfl
  a183 := fun w => by kernel_rfl
  z183 := fun w => by kernel_rfl
  v183 := fun w => by kernel_rfl
  t218 := by kernel_rfl
  a218 := fun w => by kernel_rfl
  z218 := fun w => by kernel_rfl
  v218 := fun w => by kernel_rfl
  t222 := by kernel_rfl
  a222 := fun w => by kernel_rfl
  z222 := fun w => by kernel_rfl
  v222 := fun w => by kernel_rfl
  t228 := by kernel_rfl
  a228 := fun w => by kernel_rfl
  z228 := fun w => by kernel_rfl
  v228 := fun w => by kernel_rfl
  t229 := by kernel_rfl
  a229 := fun w => by kernel_rfl
  z229 := fun w => by kernel_rfl
  v229 := fun w => by kernel_rfl
def uR3 : Ren := ⟨fun n => match n with | 194 => 65 | _ => 0, fun n => match n with | 31 => 76 | 9 => 9 | 3 => 3 | 4 => 4 | 0 => 0 | _ => 0, fun _ => 0⟩
theorem uL3 : Lays.n194 Tryz.prog uR3 where
  mixed := by kernel_rfl
  f194 := by kernel_rfl
  t0 := by kernel_rfl
  a0 := fun w => by kernel_rfl
  z0 := fun w => by kernel_rfl
  v0 := fun w => by kernel_rfl
  t3 := by kernel_rfl
  a3 := fun w => by kernel_rfl
  z3 := fun w => by kernel_rfl
  v3 := fun w => by kernel_rfl
  t4 := by kernel_rfl
  a4 := fun w => by kernel_rfl
  z4 := fun w => by kernel_rfl
  v4 := fun w => by kernel_rfl
  t9 := by kernel_rfl
  a9 := fun w => by kernel_rfl
  z9 := fun w => by kernel_rfl
  v9 := fun w => by kernel_rfl
  t31 := by kernel_rfl
  a31 := fun w => by kernel_rfl
  z31 := fun w => by kernel_rfl
  v31 := fun w => by kernel_rfl
def uR4 : Ren := ⟨fun n => match n with | 110 => 64 | 109 => 112 | _ => 0, fun n => match n with | 31 => 76 | 9 => 9 | 4 => 4 | 3 => 3 | 0 => 0 | _ => 0, fun _ => 0⟩
theorem uL4 : Lays.n110 Tryz.prog uR4 where
  mixed := by kernel_rfl
  f109 := by kernel_rfl
  f110 := by kernel_rfl
  t0 := by kernel_rfl
  a0 := fun w => by kernel_rfl
  z0 := fun w => by kernel_rfl
  v0 := fun w => by kernel_rfl
  t3 := by kernel_rfl
  a3 := fun w => by kernel_rfl
  z3 := fun w => by kernel_rfl
  v3 := fun w => by kernel_rfl
  t4 := by kernel_rfl
  a4 := fun w => by kernel_rfl
  z4 := fun w => by kernel_rfl
  v4 := fun w => by kernel_rfl
  t9 := by kernel_rfl
  a9 := fun w => by kernel_rfl
  z9 := fun w => by kernel_rfl
  v9 := fun w => by kernel_rfl
  t31 := by kernel_rfl
  a31 := fun w => by kernel_rfl
  z31 := fun w => by kernel_rfl
  v31 := fun w => by kernel_rfl
end Go.Gc
