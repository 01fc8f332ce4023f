/- One of the texts of a proof by an abstract machine over the model. -/
import Derived.Test.YtmhkendlllmodaaGreatDoorFmY
import Derived.Test.YtmhkendlllmodaaGreatDoorProg
import Derived.Shelf.Spec.TrailingZeros
import Derived.Shelf.SlIterI.Collect
set_option linter.unusedSimpArgs false
set_option linter.unusedVariables false
namespace Go.Gc
open Go Go.FM Go.RowKit Go.Proofs Go.Shelf Go.Maps

/-! ### math/bits.TrailingZeros64 -/
def tzR : Ren := ⟨fun _ => 79, fun n => match n with | 0 => 0 | 3 => 3 | 4 => 4 | 5 => 5 | 22 => 129 | 25 => 158 | 54 => 170 | _ => 0, fun _ => 0⟩
theorem tzL : Lays7.n29 Tryz.prog tzR where
  mixed := by kernel_rfl
  f29 := by kernel_rfl
  t0 := by kernel_rfl
  a0 := fun w => by kernel_rfl
  z0 := fun w => by kernel_rfl
  v0 := fun w => by kernel_rfl
  i0 := by kernel_rfl
  t3 := by kernel_rfl
  a3 := fun w => by kernel_rfl
  z3 := fun w => by kernel_rfl
  v3 := fun w => by kernel_rfl
  i3 := by kernel_rfl
  t4 := by kernel_rfl
  a4 := fun w => by kernel_rfl
  z4 := fun w => by kernel_rfl
  v4 := fun w => by kernel_rfl
  i4 := by kernel_rfl
  t5 := by kernel_rfl
  a5 := fun w => by kernel_rfl
  z5 := fun w => by kernel_rfl
  v5 := fun w => by kernel_rfl
  i5 := by kernel_rfl
  t22 := by kernel_rfl
  a22 := fun w => by kernel_rfl
  z22 := fun w => by kernel_rfl
  v22 := fun w => by kernel_rfl
  i22 := by kernel_rfl
  t25 := by kernel_rfl
  a25 := fun w => by kernel_rfl
  z25 := fun w => by kernel_rfl
  v25 := fun w => by kernel_rfl
  i25 := by kernel_rfl
  t54 := by kernel_rfl
  a54 := fun w => by kernel_rfl
  z54 := fun w => by kernel_rfl
  g1 := by kernel_rfl
/-- the package variables that the text reads -/
def tzV (n : Nat) : Value := .int .u8 (n : Int)
def Gl : List (Nat × List Value) := [(0, Lib.deBruijn64tab.map tzV)]
theorem tz_fc (x : Nat) (hx : x < 18446744073709551616) (H : Heap) : FC Tryz.prog Gl 79 [.int .u64 x] H (.int .i64 (Lib.ctz 64 x)) H := by
  refine FC_below fun w F m vs hF hG hv hH => ?_
  cases hv with
  | cons _ v _ vs h1 h2 =>
  cases h2
  cases h1
  refine (Any7.bits_TrailingZeros64 tzL x hx w fun _ j hj => ?_).mono ?_
  · obtain ⟨_, _, h⟩ := hG (0, Lib.deBruijn64tab.map tzV) (by simp [Gl])
    refine h j _ ?_
    rw [List.getElem?_map, List.getElem?_eq_getElem hj, List.getD_eq_getElem?_getD, List.getElem?_eq_getElem hj]
    rfl
  · rintro e w' ⟨rfl, rfl⟩
    exact ⟨_, rfl, Below.refl _ _, .int _ _⟩

/-! ### slices.AppendSeq over maps.Keys of a set -/
def kR : Ren := ⟨fun n => match n with | 10 => 118 | _ => 117, fun n => match n with | 0 => 0 | 4 => 4 | 23 => 112 | 26 => 3 | 3 => 117 | 33 => 52 | 24 => 53 | 28 => 115 | _ => 0, fun _ => 0⟩
theorem kL10 : SlLaysZI.n10 Tryz.prog kR where
  mixed := by kernel_rfl
  f10 := ⟨Tryz.f118.name, by kernel_rfl, by kernel_rfl⟩
  t0 := by kernel_rfl
  a0 := fun w => by kernel_rfl
  z0 := fun w => by kernel_rfl
  v0 := fun w => by kernel_rfl
  t4 := by kernel_rfl
  a4 := fun w => by kernel_rfl
  z4 := fun w => by kernel_rfl
  v4 := fun w => by kernel_rfl
  t23 := by kernel_rfl
  a23 := fun w => by kernel_rfl
  z23 := fun w => by kernel_rfl
  v23 := fun w => by kernel_rfl
  t26 := by kernel_rfl
  a26 := fun w => by kernel_rfl
  z26 := fun w => by kernel_rfl
  v26 := fun w => by kernel_rfl
  t33 := by kernel_rfl
  a33 := fun w => by kernel_rfl
  z33 := fun w => by kernel_rfl
  v33 := fun w => by kernel_rfl
theorem kL11 : SlLaysZI.n11 Tryz.prog kR where
  mixed := by kernel_rfl
  f11 := ⟨Tryz.f117.name, by kernel_rfl, by kernel_rfl⟩
  t0 := by kernel_rfl
  a0 := fun w => by kernel_rfl
  z0 := fun w => by kernel_rfl
  v0 := fun w => by kernel_rfl
  t24 := by kernel_rfl
  a24 := fun w => by kernel_rfl
  z24 := fun w => by kernel_rfl
  v24 := fun w => by kernel_rfl
  t26 := by kernel_rfl
  a26 := fun w => by kernel_rfl
  z26 := fun w => by kernel_rfl
  v26 := fun w => by kernel_rfl
  t28 := by kernel_rfl
  a28 := fun w => by kernel_rfl
  z28 := fun w => by kernel_rfl
  v28 := fun w => by kernel_rfl
  i26 := by kernel_rfl

theorem appendSeq_calls {w : World} {Bm b nn : Nat} {D0 : DataW Unit} {R : Value → Option (DataW Unit × List MemPlace)} (hBm : Bm < w.heap.size) (hm : w.cell? ⟨Bm, 0, none⟩ = some (.map (some b))) (hown : w.ownsMap Tryz.prog 3 R b nn D0) (hmax : Maps.size D0 ≤ maxLen) (hb : Maps.size D0 * 8 ≤ 140737488355328) :
    Calls Tryz.prog 117 #[.slice none 0 0, .func (.func 118) #[] #[.pointer (some ⟨Bm, 0, none⟩)]] w fun e w' => ∃ (v : Value) (ss : List Int), e = .returned v ∧ ss.Perm (intKeys D0) ∧ w'.ownsRow w.heap.size 3 1 v ss.length (ss.map encZ) ∧ (v = .slice none 0 0 ↔ ss = []) ∧ Below w.heap.size w w' := by
  refine (callsIn_wide (n := 6)).1 ?_
  have hseq : SeqGives Fence.wide 5 Tryz.prog 118 #[.pointer (some ⟨Bm, 0, none⟩)] encZ (fun ss => ss.Perm (intKeys D0)) (Maps.size D0) w :=
    AnyZI.keys_gives (ρ := kR) kL10 Fence.wide 5 trivial rfl (by omega) Bm b nn D0 w hBm hm hown
  exact AnyZI.appendSeq_in (ρ := kR) kL11 Fence.wide 6 trivial rfl (by omega) 118 _ trivial (enters_of (c := _) (show Tryz.prog.funcs[118]? = some Tryz.f118 by kernel_rfl) (by kernel_rfl) rfl) _ _ hmax hb w hseq
/-- what is told of a map's values here: nothing -/
def noR : Value → Option (DataW Unit × List MemPlace) := fun _ => some (.nil, [])
theorem own1 {w : World} {b : Nat} {x : MapEntry} {a : Int} {clk : Nat} (h : w.heap[b]? = some (.map #[x] clk)) (hk : x.key = .int .i64 a) (hw : (Lit.int .i64 a).wf = true) (hb : x.born < clk) : w.ownsMap Tryz.prog 3 noR b 1 (.map [(.int .i64 a, .nil)]) := by
  have hrd : Go.WideElems.rd Tryz.prog 3 noR x = some (.int .i64 a, .nil) := by
    have : keyOf Tryz.prog 3 x.key = some (.int .i64 a) := by rw [hk]; exact keyOf_int_mk kL10.t26 hw
    simp [Go.WideElems.rd, this, noR]
  refine ⟨#[x], clk, h, ⟨by simp [maxLen], by simp [MapKept.Stamped, hb], fun y hy => ?_⟩, by simp, ?_⟩
  · have : y = x := by simpa using hy
    subst this
    exact ⟨_, hrd⟩
  · simp [Go.WideElems.rg, hrd, DataW.insert]
theorem own0 {w : World} {b : Nat} {clk : Nat} (h : w.heap[b]? = some (.map #[] clk)) : w.ownsMap Tryz.prog 3 noR b 0 (.map []) :=
  ⟨#[], clk, h, ⟨by decide, by simp [MapKept.Stamped], fun y hy => by simp at hy⟩, by simp, rfl⟩
theorem keys0_fc {H : Heap} {l k : FM.Loc} {T : TypeId} {clk : Nat} (hl : H l = some (.cells T 1 [[.mp k]])) (hk : H k = some (.map [] clk)) : FC Tryz.prog Gl 117 [.nils, .clo 118 [] [.ptr l 1 0 0]] H .nils H := by
  refine FC_below fun w F m vs hF hG hv hH => ?_
  cases hv with
  | cons _ v1 _ vs h1 h2 =>
  cases h2 with
  | cons _ v2 _ vs h2 h3 =>
  cases h3
  cases h1
  cases h2 with
  | clo _ _ _ us vs g1 g2 =>
  cases g1
  obtain ⟨v, rfl, g⟩ := g2.single
  cases g
  obtain ⟨_, h0, c, ws, q1, q2, q3, q4, q5⟩ := row_at (i := 0) (x := [.mp k]) hH hl rfl
  obtain ⟨u, rfl, r⟩ := q4.single
  cases r
  obtain ⟨hk0, ar, k1, k2⟩ := hH.obj _ _ hk
  have har : ar = #[] := by
    cases hq : ar.toList with
    | nil => exact Array.ext' hq
    | cons _ _ => rw [hq] at k2; cases k2
  subst har
  have hcell : w.cell? ⟨(m l).1, 0, none⟩ = some (.map (some (m k).1)) := by
    rw [cell_blk q1]
    have := q5 0 (by omega)
    simpa using this.symm
  refine (appendSeq_calls (hH.old l ⟨_, hl, by simp, h0⟩).1 hcell (own0 k1) (by decide) (by decide)).mono ?_
  rintro e w' ⟨v, ss, rfl, hp, hrow, hnil, hb⟩
  have hss : ss = [] := by simpa [intKeys] using hp
  exact ⟨v, rfl, hb, by rw [hnil.2 hss]; exact .nils⟩
theorem keys1_fc {H : Heap} {l k nm : FM.Loc} {T : TypeId} {clk born : Nat} {a : Int} {v0 : FV} (hl : H l = some (.cells T 1 [[.mp k]])) (hk : H k = some (.map [(.int .i64 a, v0, born)] clk)) (hw : (Lit.int .i64 a).wf = true) (hb : born < clk) (hnm : H nm = none) :
    FC Tryz.prog Gl 117 [.nils, .clo 118 [] [.ptr l 1 0 0]] H (.sl nm 1 0 1) (upd H nm (.cells 3 1 [[.int .i64 a]])) := by
  refine FC_row hnm (by decide) fun w F m vs hF hG hv hH => ?_
  cases hv with
  | cons _ v1 _ vs h1 h2 =>
  cases h2 with
  | cons _ v2 _ vs h2 h3 =>
  cases h3
  cases h1
  cases h2 with
  | clo _ _ _ us vs g1 g2 =>
  cases g1
  obtain ⟨v, rfl, g⟩ := g2.single
  cases g
  obtain ⟨_, h0, c, ws, q1, q2, q3, q4, q5⟩ := row_at (i := 0) (x := [.mp k]) hH hl rfl
  obtain ⟨u, rfl, r⟩ := q4.single
  cases r
  obtain ⟨hk0, ar, k1, k2⟩ := hH.obj _ _ hk
  obtain ⟨x, har, hre⟩ : ∃ x, ar = #[x] ∧ RE w F (fun l => H l ≠ none) m (.int .i64 a, v0, born) x := by
    cases hq : ar.toList with
    | nil => rw [hq] at k2; cases k2
    | cons x xs => rw [hq] at k2; cases k2 with
      | cons _ _ _ _ p q => cases q; exact ⟨x, Array.ext' hq, p⟩
  subst har
  have hcell : w.cell? ⟨(m l).1, 0, none⟩ = some (.map (some (m k).1)) := by
    rw [cell_blk q1]
    have := q5 0 (by omega)
    simpa using this.symm
  have hkey : x.key = .int .i64 a := by have := hre.key; generalize x.key = y at this; cases this; rfl
  refine (appendSeq_calls (hH.old l ⟨_, hl, by simp, h0⟩).1 hcell (own1 k1 hkey hw (by rw [hre.born]; exact hb)) (by simp [Maps.size, maxLen]) (by simp [Maps.size])).mono ?_
  rintro e w' ⟨v, ss, rfl, hp, hrow, hnil, hb⟩
  have hss : ss = [a] := by simpa [intKeys, intOf] using hp
  subst hss
  obtain ⟨_, ⟨_, h⟩ | ⟨g, cap, cur, rfl, hg, hgc, hn, hmx, hcs, htk⟩⟩ := hrow
  · simp at h
  · have hcap : 0 < cap := by simp at hn; omega
    refine ⟨g, cap, cur, rfl, hb, hg, hgc, hn, hcs, hcap, by simp, by simp; omega, ?_⟩
    simp only [List.length_cons, List.length_nil, Nat.zero_add, Nat.one_mul, Nat.mul_one, List.flatten_cons, List.flatten_nil, List.append_nil] at htk ⊢
    rw [htk]
    exact .cons _ _ _ _ (.int _ _) .nil
end Go.Gc
