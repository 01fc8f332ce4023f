/- One of the texts of a proof by an abstract machine over the model. -/
import Derived.Test.YthlhjepijodemaaAmT
import Derived.ProofKit
import Derived.OpenShut
import Derived.ShutString
import Derived.ChangeOld
import Derived.Below
import Derived.Deep.Grids
import Derived.Lib.SmallJoins
set_option linter.unusedSimpArgs false
set_option linter.unusedVariables false
namespace Go.AM
open Go Go.Joins Go.ChangeShapes Go.WideShapes Go.RowKit Go.Deep Go.ChangeAt

/-- a law's call: it answers true, and nothing that was there turns -/
theorem OC.law {P : Program} {f : FuncId} {args args' : List AV} (h : OC P f args (.bool true) args') {w : World} {vs : List Value} (hv : RVs w (fun y => y < w.heap.size) args vs []) :
    Calls P f vs.toArray w fun e w' => e = .returned (.bool true) ∧ Below w.heap.size w w' := by
  refine (h w (fun y => y < w.heap.size) vs [] (fun _ h => h) hv List.nodup_nil (by simp)).mono ?_
  rintro e w' ⟨v, F', b', br, he, h1, h2, h3, h4, h5, h6, h7, h8, h9, h10, h11⟩
  refine ⟨?_, h9, h10, h11, h7, fun k hk => h8 k hk (by simp)⟩
  generalize br = l at h4
  cases h4
  exact he

/-! ### what a reading says -/
section
variable {H : Type} {enc : TypeId × Value → H} {P : Program} {w : World}

theorem rvs_lits {F : Nat → Prop} {α : Type} (f : α → AV) (g : α → Value) (h : ∀ x, RV w F (f x) (g x) []) : ∀ xs : List α, RVs w F (xs.map f) (xs.map g) []
  | [] => .nil
  | x :: xs => .cons _ _ [] _ _ [] (h x) (rvs_lits f g h xs)
theorem cell_lt {a : Addr} {v : Value} (h : w.cell? a = some v) : a.block < w.heap.size := by
  rcases Nat.lt_or_ge a.block w.heap.size with h' | h'
  · exact h'
  · exfalso
    have : w.heap[a.block]? = none := by simp [h']
    simp [World.cell?, this] at h
theorem rd_ints {t e : TypeId} {k : IntKind} {fuel : Nat} {v : Value} {held : Bool} {x : DataW H × List MemPlace} (ht : P.underlying t = some (.slice e)) (he : P.underlying e = some (.int k)) (hc : P.cellsOf e = 1)
    (h : DataW.trod enc P w 0 (fun _ => true) held fuel t [v] = some x) :
    ∃ zs : List Int, RV w (fun y => y < w.heap.size) (.list 1 (zs.map fun r => [AV.int k r])) v [] ∧ ∀ n ∈ zs, (Lit.int k n).wf = true := by
  rcases open_ints ht he hc h with ⟨hcs, _⟩ | ⟨a, l, c, zs, hcs, _, hl, hm, hz, _, hcell, hwz⟩
  · simp only [List.cons.injEq, and_true] at hcs
    subst hcs
    exact ⟨[], .list 1 [] none 0 [] (by simp) (by simp) (by simp) .nil, by simp⟩
  · simp only [List.cons.injEq, and_true] at hcs
    subst hcs
    simp only [if_true] at hz
    have hlen : ((zs.take l).map fun r => [AV.int k r]).length = l := by simp; omega
    refine ⟨zs.take l, ?_, fun n hn => hwz n (List.mem_of_mem_take hn)⟩
    have := RV.list (w := w) (F := fun y => y < w.heap.size) 1 ((zs.take l).map fun r => [AV.int k r]) (some a) c ((zs.take l).map fun r => Value.int k r) (fun x hx => by rw [List.mem_map] at hx; obtain ⟨_, _, rfl⟩ := hx; rfl) (by rw [hlen]; exact hl) (fun hne => ?_) ?_
    · rw [hlen] at this; exact this
    · have hl0 : 0 < zs.length := by
        rcases Nat.eq_zero_or_pos zs.length with h0 | h0
        · have := List.eq_nil_of_length_eq_zero h0; subst this; simp at hne
        · exact h0
      refine ⟨a, rfl, ?_, fun j v hv => ?_⟩
      · have := cell_lt (hcell 0 hl0)
        rwa [block_add] at this
      · rw [List.getElem?_map, Option.map_eq_some_iff] at hv
        obtain ⟨n, hn, rfl⟩ := hv
        rw [List.getElem?_take] at hn
        split at hn
        · rw [hcell j (by rw [List.getElem?_eq_some_iff] at hn; exact hn.1), List.getD_eq_getElem?_getD, hn]; rfl
        · cases hn
    · have e : ((zs.take l).map fun r => [AV.int k r]).flatten = (zs.take l).map fun r => AV.int k r := by
        generalize zs.take l = ys
        induction ys with
        | nil => rfl
        | cons y ys ih => simp [ih]
      rw [e]
      exact rvs_lits _ _ (fun r => .int k r) _
theorem rd_bools {t e : TypeId} {fuel : Nat} {v : Value} {held : Bool} {x : DataW H × List MemPlace} (ht : P.underlying t = some (.slice e)) (he : P.underlying e = some .bool) (hc : P.cellsOf e = 1)
    (h : DataW.trod enc P w 0 (fun _ => true) held fuel t [v] = some x) :
    ∃ zs : List Bool, RV w (fun y => y < w.heap.size) (.list 1 (zs.map fun r => [AV.bool r])) v [] := by
  rcases open_bools ht he hc h with ⟨hcs, _⟩ | ⟨a, l, c, B, hcs, _, hl, hm, _, hcell⟩
  · simp only [List.cons.injEq, and_true] at hcs
    subst hcs
    exact ⟨[], .list 1 [] none 0 [] (by simp) (by simp) (by simp) .nil⟩
  · simp only [List.cons.injEq, and_true] at hcs
    subst hcs
    have hlen : (((List.range l).map B).map fun r => [AV.bool r]).length = l := by simp
    refine ⟨(List.range l).map B, ?_⟩
    have := RV.list (w := w) (F := fun y => y < w.heap.size) 1 (((List.range l).map B).map fun r => [AV.bool r]) (some a) c (((List.range l).map B).map fun r => Value.bool r) (by simp) (by rw [hlen]; exact hl) (fun hne => ?_) ?_
    · rw [hlen] at this; exact this
    · have hl0 : 0 < l := by
        rcases Nat.eq_zero_or_pos l with h0 | h0
        · subst h0; simp at hne
        · exact h0
      refine ⟨a, rfl, ?_, fun j v hv => ?_⟩
      · have := cell_lt (hcell 0 (by omega))
        rwa [block_add] at this
      · rw [List.getElem?_map, List.getElem?_map, Option.map_eq_some_iff] at hv
        obtain ⟨n, hn, rfl⟩ := hv
        rw [Option.map_eq_some_iff] at hn
        obtain ⟨i, hi, rfl⟩ := hn
        obtain ⟨h1, h2⟩ := List.getElem?_eq_some_iff.1 hi
        simp only [List.length_range] at h1
        simp only [List.getElem_range] at h2
        subst h2
        exact hcell _ (by omega)
    · have e : (((List.range l).map B).map fun r => [AV.bool r]).flatten = ((List.range l).map B).map fun r => AV.bool r := by
        generalize (List.range l).map B = ys
        induction ys with
        | nil => rfl
        | cons y ys ih => simp [ih]
      rw [e]
      exact rvs_lits _ _ (fun r => .bool r) _
theorem rd_int {t : TypeId} {k : IntKind} {fuel : Nat} {v : Value} {held : Bool} {spare : Nat → Bool} {base : Nat} {x : DataW H × List MemPlace} (ht : P.underlying t = some (.int k))
    (h : DataW.trod enc P w base spare held fuel t [v] = some x) : ∃ n, v = .int k n ∧ (Lit.int k n).wf = true := by
  obtain ⟨n, hc, _, hw⟩ := DataW.trod_int ht h
  simp only [List.cons.injEq, and_true] at hc
  exact ⟨n, hc, hw⟩
theorem wf_range {k : IntKind} {n : Int} (h : (Lit.int k n).wf = true) : k.min ≤ n ∧ n ≤ k.max := by
  simpa [Lit.wf] using h
end

section
variable {H : Type} {enc : TypeId × Value → H} {P : Program} {w : World} {base : Nat} {spare : Nat → Bool} {held : Bool}
theorem open_agg6 {r : Reach} {b0 : Nat} {t : TypeId} {f0 f1 f2 f3 f4 f5 : Field} {v : Value} {d : DataW H} {p : List MemPlace} (hs : P.underlying t = some (.struct #[f0, f1, f2, f3, f4, f5])) (hone : oneCellFields P #[f0, f1, f2, f3, f4, f5] = true) (hC : P.cellsOf t = 6)
    (hv : Value.okWide P w r b0 t v) (h : DataW.Trod enc P w base spare held t v d p) :
    ∃ (v0 v1 v2 v3 v4 v5 : Value) (y0 y1 y2 y3 y4 y5 : DataW H × List MemPlace) (n : Nat), v = .agg #[v0, v1, v2, v3, v4, v5] ∧
      DataW.trod enc P w base spare held n f0.type [v0] = some y0 ∧ DataW.trod enc P w base spare held n f1.type [v1] = some y1 ∧ DataW.trod enc P w base spare held n f2.type [v2] = some y2 ∧ DataW.trod enc P w base spare held n f3.type [v3] = some y3 ∧ DataW.trod enc P w base spare held n f4.type [v4] = some y4 ∧ DataW.trod enc P w base spare held n f5.type [v5] = some y5 := by
  obtain ⟨cs, rfl, hsz⟩ := okWide_struct hs hv
  obtain ⟨l⟩ := cs
  match l, hsz.trans hC with
  | [c0, c1, c2, c3, c4, c5], _ =>
    obtain ⟨fuel, hf⟩ := h
    obtain ⟨xs, n, _, hx, _, hlen, hg⟩ := DataW.trod_struct hs hf
    obtain ⟨o0, k0⟩ := hone_of hone 0 f0 rfl
    obtain ⟨o1, k1⟩ := hone_of hone 1 f1 rfl
    obtain ⟨o2, k2⟩ := hone_of hone 2 f2 rfl
    obtain ⟨o3, k3⟩ := hone_of hone 3 f3 rfl
    obtain ⟨o4, k4⟩ := hone_of hone 4 f4 rfl
    obtain ⟨o5, k5⟩ := hone_of hone 5 f5 rfl
    match xs, hlen with
    | [y0, y1, y2, y3, y4, y5], _ =>
      exact ⟨c0, c1, c2, c3, c4, c5, y0, y1, y2, y3, y4, y5, n, rfl, by simpa [Value.cells, o0, k0] using hg 0 f0 rfl, by simpa [Value.cells, o1, k1] using hg 1 f1 rfl, by simpa [Value.cells, o2, k2] using hg 2 f2 rfl, by simpa [Value.cells, o3, k3] using hg 3 f3 rfl, by simpa [Value.cells, o4, k4] using hg 4 f4 rfl, by simpa [Value.cells, o5, k5] using hg 5 f5 rfl⟩
end
end Go.AM
