/- One of the texts of a proof by an abstract machine over the model. -/
import Derived.Test.YtmhkendlllmodaaGreatDoorFmP
import Derived.ProofKit
import Derived.OpenShut
import Derived.ShutString
import Derived.ChangeOld
import Derived.Below
import Derived.LaidMore
import Derived.Stop.Joined
import Derived.Lib.LaidTab
set_option linter.unusedSimpArgs false
set_option linter.unusedVariables false
namespace Go.FM
open Go Go.ChangeShapes Go.WideShapes Go.RowKit Go.ChangeAt

/-- a law's call: it answers true, and nothing that was there turns -/
theorem PC.law {P : Program} {G : List (Nat × List Value)} {f : FuncId} {args : List FV} (h : PC P G f args (.bool true)) {w : World} {vs : List Value} (hG : GlobOk G (fun b => b < w.heap.size) w)
    (hv : RFs w (fun b => b < w.heap.size) (fun _ => False) (fun _ => (0, 0)) args vs) : Calls P f vs.toArray w fun e w' => e = .returned (.bool true) ∧ Below w.heap.size w w' := by
  refine (h w _ (fun _ => (0, 0)) vs (fun _ h => h) hG (hv.keep (fun _ h => h) (fun _ _ => rfl) (fun _ h => h.elim) (fun _ _ => rfl)) (heapR_noH _ _ _)).mono ?_
  rintro e w' ⟨v, F', m', rfl, h1, h2, h3, h4, h5, h6, h7, h8, h9, h10, h11⟩
  refine ⟨?_, h9, h10, h11, h7, fun y hy => h8 y hy fun l ⟨_, h, _⟩ => by cases h⟩
  generalize hb : FV.bool true = b at h4
  cases h4 <;> cases hb
  rfl
/-- a table that the row lists -/
theorem glob_tab {P : Program} {W : World} {name : String} {k : IntKind} {zs : List Int} {g : Nat} (h : Lib.TabIs P W name k zs) (hg : P.globalNamed name = some g) (hz : 0 < zs.length) : GlobOk [(g, zs.map fun z => Value.int k z)] (fun b => b < W.heap.size) W := by
  have hc : ∀ j v, (zs.map fun z => Value.int k z)[j]? = some v → W.cell? ⟨g, j, none⟩ = some v := fun j v hv => by
    have := World.var?_cell hg h j
    rw [this]
    simpa using hv
  have hlt : g < W.heap.size := by
    have h0 := hc 0 (.int k zs[0]) (by simp [List.getElem?_eq_getElem hz])
    rcases Nat.lt_or_ge g W.heap.size with h' | h'
    · exact h'
    · exfalso
      have : W.heap[g]? = none := by simp [h']
      simp [World.cell?, this] at h0
  intro p hp
  simp only [List.mem_singleton] at hp
  subst hp
  exact ⟨hlt, hlt, hc⟩

/-! ### what a reading says -/
/-- whatever is read at this type is one of the values 'f x', with 'p x' -/
def Rd (P : Program) (t : TypeId) {α : Type} (sz : Nat) (f : α → List FV) (p : α → Prop) : Prop :=
  P.cellsOf t = sz ∧ (∀ x, (f x).length = sz) ∧ ∀ (H : Type) (enc : TypeId × Value → H) (w : World) (spare : Nat → Bool) (held : Bool) (fuel : Nat) (cs : List Value) (y : DataW H × List MemPlace),
    DataW.trod enc P w 0 spare held fuel t cs = some y → ∃ x, p x ∧ RFs w (fun b => b < w.heap.size) (fun _ => False) (fun _ => (0, 0)) (f x) cs
def RdF (P : Program) (fs : List Field) (off : Nat) {α : Type} (sz : Nat) (f : α → List FV) (p : α → Prop) : Prop :=
  (∀ x, (f x).length = sz) ∧ ∀ (H : Type) (enc : TypeId × Value → H) (w : World) (spare : Nat → Bool) (held : Bool) (fuel : Nat) (cs : List Value),
    (∀ (i : Nat) (f : Field), fs[i]? = some f → ∃ y, DataW.trod enc P w 0 spare held fuel f.type ((cs.drop f.offset).take (P.cellsOf f.type)) = some y) → cs.length = off + sz → ∃ x, p x ∧ RFs w (fun b => b < w.heap.size) (fun _ => False) (fun _ => (0, 0)) (f x) (cs.drop off)
section
variable {P : Program} {t e : TypeId}
theorem rd_int {k : IntKind} (ht : P.underlying t = some (.int k)) (hc : P.cellsOf t = 1) : Rd P t 1 (fun n : Int => [.int k n]) (fun n => k.min ≤ n ∧ n ≤ k.max) := by
  refine ⟨hc, fun _ => rfl, fun H enc w spare held fuel cs y h => ?_⟩
  obtain ⟨n, rfl, _, hw⟩ := DataW.trod_int ht h
  exact ⟨n, by simpa [Lit.wf] using hw, .cons _ _ _ _ (.int k n) .nil⟩
theorem rd_bool (ht : P.underlying t = some .bool) (hc : P.cellsOf t = 1) : Rd P t 1 (fun b : Bool => [.bool b]) (fun _ => True) := by
  refine ⟨hc, fun _ => rfl, fun H enc w spare held fuel cs y h => ?_⟩
  obtain ⟨b, rfl, _⟩ := DataW.trod_bool ht h
  exact ⟨b, trivial, .cons _ _ _ _ (.bool b) .nil⟩
theorem rd_str (ht : P.underlying t = some .string) (hc : P.cellsOf t = 1) : Rd P t 1 (fun s : ByteArray => [.str s]) (fun s => s.size ≤ maxLen) := by
  refine ⟨hc, fun _ => rfl, fun H enc w spare held fuel cs y h => ?_⟩
  obtain ⟨s, rfl, _, hs⟩ := DataW.trod_string ht h
  exact ⟨s, hs, .cons _ _ _ _ (.str s) .nil⟩
theorem rdf_nil {off : Nat} : RdF P [] off 0 (fun _ : Unit => []) (fun _ => True) := by
  refine ⟨fun _ => rfl, fun H enc w spare held fuel cs h hl => ⟨(), trivial, ?_⟩⟩
  rw [List.drop_eq_nil_of_le (by omega)]
  exact .nil
theorem rdf_cons {fl : Field} {fs : List Field} {off sz1 sz2 : Nat} {α β : Type} {f : α → List FV} {p : α → Prop} {g : β → List FV} {q : β → Prop} (ho : fl.offset = off) (h1 : Rd P fl.type sz1 f p) (h2 : RdF P fs (off + sz1) sz2 g q) :
    RdF P (fl :: fs) off (sz1 + sz2) (fun x : α × β => f x.1 ++ g x.2) (fun x => p x.1 ∧ q x.2) := by
  refine ⟨fun x => by simp [h1.2.1, h2.1], fun H enc w spare held fuel cs h hl => ?_⟩
  obtain ⟨y, hy⟩ := h 0 fl rfl
  obtain ⟨a, ha, hra⟩ := h1.2.2 H enc w spare held fuel _ y hy
  obtain ⟨b, hb, hrb⟩ := h2.2 H enc w spare held fuel cs (fun i f' hf => h (i + 1) f' (by simpa using hf)) (by omega)
  refine ⟨(a, b), ⟨ha, hb⟩, ?_⟩
  rw [ho, h1.1] at hra
  have : cs.drop off = (cs.drop off).take sz1 ++ cs.drop (off + sz1) := by
    rw [← List.drop_drop]; exact (List.take_append_drop sz1 _).symm
  rw [this]
  exact hra.append hrb
theorem rd_struct {fs : Array Field} {α β : Type} {sz : Nat} {f : α → List FV} {p : α → Prop} (ht : P.underlying t = some (.struct fs)) (hc : P.cellsOf t = sz) (h : RdF P fs.toList 0 sz f p) (g : α → β) {f' : β → List FV} {p' : β → Prop} (hf : ∀ x, f' (g x) = f x) (hp : ∀ x, p x → p' (g x)) (hl : ∀ y, (f' y).length = sz) : Rd P t sz f' p' := by
  refine ⟨hc, hl, fun H enc w spare held fuel cs y hy => ?_⟩
  obtain ⟨xs, n, rfl, _, h1, h2, h3⟩ := DataW.trod_struct ht hy
  obtain ⟨x, hx, hr⟩ := h.2 H enc w spare held n cs (fun i fl hfl => by
    have hi : i < xs.length := by
      rw [h2]
      have := (List.getElem?_eq_some_iff.1 hfl).1
      simpa using this
    exact ⟨xs[i], by rw [h3 i fl (by simpa using hfl), List.getElem?_eq_getElem hi]⟩) (by omega)
  exact ⟨g x, hp x hx, by rw [hf]; simpa using hr⟩
theorem rd_all {w : World} {α : Type} {f : α → List FV} {p : α → Prop} {g : Nat → List Value} : ∀ n, (∀ i, i < n → ∃ x, p x ∧ RFs w (fun b => b < w.heap.size) (fun _ => False) (fun _ => (0, 0)) (f x) (g i)) →
    ∃ xs : List α, xs.length = n ∧ (∀ x ∈ xs, p x) ∧ RFs w (fun b => b < w.heap.size) (fun _ => False) (fun _ => (0, 0)) (xs.map f).flatten ((List.range n).map g).flatten
  | 0, _ => ⟨[], rfl, fun _ h => (by cases h), .nil⟩
  | n + 1, h => by
    obtain ⟨xs, h1, h2, h3⟩ := rd_all n fun i hi => h i (by omega)
    obtain ⟨x, hx, hr⟩ := h n (by omega)
    refine ⟨xs ++ [x], by simp [h1], fun y hy => ?_, ?_⟩
    · rcases List.mem_append.1 hy with hy | hy
      · exact h2 y hy
      · rw [List.mem_singleton.1 hy]; exact hx
    · rw [List.range_succ]
      simpa using h3.append hr
theorem flat_at {sz : Nat} (h0 : 0 < sz) {g : Nat → List Value} (hg : ∀ i, (g i).length = sz) : ∀ n j v, (((List.range n).map g).flatten)[j]? = some v → j / sz < n ∧ (g (j / sz))[j % sz]? = some v
  | 0, j, v, h => by simp at h
  | n + 1, j, v, h => by
    rw [List.range_succ, List.map_append, List.flatten_append] at h
    have hl : (((List.range n).map g).flatten).length = n * sz := by
      clear h
      induction n with
      | zero => simp
      | succ n ih => rw [List.range_succ, List.map_append, List.flatten_append, List.length_append, ih]; simp [hg, Nat.succ_mul]
    rcases Nat.lt_or_ge j (n * sz) with hj | hj
    · rw [List.getElem?_append_left (by omega)] at h
      obtain ⟨a, b⟩ := flat_at h0 hg n j v h
      exact ⟨by omega, b⟩
    · rw [List.getElem?_append_right (by omega), hl] at h
      have h' : (g n)[j - n * sz]? = some v := by simpa using h
      have hlt := (List.getElem?_eq_some_iff.1 h').1
      rw [hg] at hlt
      have e : j = (j - n * sz) + n * sz := by omega
      have e1 : j / sz = n := by rw [e, Nat.add_mul_div_right _ _ h0, Nat.div_eq_of_lt hlt]; omega
      have e2 : j % sz = j - n * sz := by
        rw [show j % sz = ((j - n * sz) + n * sz) % sz by rw [← e], Nat.add_mul_mod_self_right, Nat.mod_eq_of_lt hlt]
      exact ⟨by omega, by rw [e1, e2]; exact h'⟩
theorem cells?_get {w : World} {a : Addr} {n : Nat} {cs : List Value} (h : w.cells? 0 a n = some cs) : cs.length = n ∧ ∀ j v, cs[j]? = some v → w.cell? (a.add j) = some v := by
  unfold World.cells? at h
  split at h
  · have hl := Lib.mapM_length h
    refine ⟨by simpa using hl, fun j v hv => ?_⟩
    have hj : j < n := by
      have := (List.getElem?_eq_some_iff.1 hv).1
      rw [hl] at this; simpa using this
    obtain ⟨b, hb, hf⟩ := Lib.mapM_at h j j (by simp [hj])
    rw [hv] at hb
    obtain rfl := Option.some.inj hb
    exact hf
  · cases h
theorem rd_slice {α : Type} {sz : Nat} {f : α → List FV} {p : α → Prop} (ht : P.underlying t = some (.slice e)) (hc : P.cellsOf t = 1) (h0 : 0 < sz) (h : Rd P e sz f p) : Rd P t 1 (fun xs : List α => [.list sz (xs.map f)]) (fun xs => ∀ x ∈ xs, p x) := by
  obtain ⟨hce, hlen, hrd⟩ := h
  refine ⟨hc, fun _ => rfl, fun H enc w spare held fuel cs y hy => ?_⟩
  rcases DataW.trod_slice ht hy with ⟨rfl, _⟩ | ⟨a, len, cap, elems, rest, n, rfl, rfl, _, hb, hl, hm, hel, hat, _, _⟩
  · exact ⟨[], fun _ h => (by cases h), .cons _ _ _ _ (.list sz [] none 0 [] (by simp) (by simp) (by simp) .nil) .nil⟩
  · have each : ∀ i, i < len → ∃ c, w.cells? 0 (a.add (i * sz)) sz = some c ∧ ∃ x, p x ∧ RFs w (fun b => b < w.heap.size) (fun _ => False) (fun _ => (0, 0)) (f x) c := fun i hi => by
      have := hat i hi
      rw [List.getElem?_eq_getElem (by omega), Option.bind_eq_some_iff, hce] at this
      obtain ⟨c, h1, h2⟩ := this
      obtain ⟨x, hx, hr⟩ := hrd H enc w spare held n c _ h2
      exact ⟨c, h1, x, hx, hr⟩
    let g : Nat → List Value := fun i => if hi : i < len then (each i hi).choose else List.replicate sz default
    have hg : ∀ i (hi : i < len), g i = (each i hi).choose := fun i hi => by simp [g, hi]
    have hgl : ∀ i, (g i).length = sz := fun i => by
      by_cases hi : i < len
      · rw [hg i hi]; exact (cells?_get (each i hi).choose_spec.1).1
      · simp [g, hi]
    obtain ⟨xs, k1, k2, k3⟩ := rd_all (p := p) (f := f) (w := w) (g := g) len fun i hi => by
      rw [hg i hi]; exact (each i hi).choose_spec.2
    have hcell : ∀ (j : Nat) (v : Value), (((List.range len).map g).flatten)[j]? = some v → w.cell? (a.add j) = some v := fun j v hv => by
      obtain ⟨d1, d2⟩ := flat_at h0 hgl len j v hv
      rw [hg _ d1] at d2
      have := (cells?_get (each _ d1).choose_spec.1).2 _ _ d2
      rw [add_add] at this
      rwa [show j / sz * sz + j % sz = j by rw [Nat.mul_comm]; exact Nat.div_add_mod j sz] at this
    refine ⟨xs, k2, .cons _ _ _ _ ?_ .nil⟩
    have := RF.list (w := w) (F := fun b => b < w.heap.size) (U := fun _ => False) (m := fun _ => (0, 0)) sz (xs.map f) (some a) cap ((List.range len).map g).flatten (fun x hx => by
      obtain ⟨z, _, rfl⟩ := List.mem_map.1 hx; exact hlen z) (by simp; omega) (fun hne => ⟨a, rfl, ?_, hcell⟩) k3
    · rw [List.length_map, k1] at this; exact this
    · have hl0 : 0 < len := by
        rcases Nat.eq_zero_or_pos len with h | h
        · rw [h] at k1
          rw [List.eq_nil_of_length_eq_zero k1] at hne
          exact absurd rfl hne
        · exact h
      obtain ⟨v0, hv0⟩ : ∃ v, (g 0)[0]? = some v := ⟨(g 0)[0]'(by rw [hgl]; exact h0), List.getElem?_eq_getElem _⟩
      rw [hg 0 hl0] at hv0
      have := (cells?_get (each 0 hl0).choose_spec.1).2 0 _ hv0
      rcases Nat.lt_or_ge a.block w.heap.size with h' | h'
      · exact h'
      · exfalso
        have e : w.heap[a.block]? = none := by simp [h']
        simp [World.cell?, block_add, e] at this
/-- an argument of a slice's type -/
theorem Rd.slice {α : Type} {f : α → List FV} {p : α → Prop} (h : Rd P t 1 f p) {H : Type} {enc : TypeId × Value → H} {w : World} {spare : Nat → Bool} {held : Bool} {a : Option Addr} {l c : Nat} {d : DataW H} {ps : List MemPlace} (ht : DataW.Trod enc P w 0 spare held t (.slice a l c) d ps) :
    ∃ x, p x ∧ RFs w (fun b => b < w.heap.size) (fun _ => False) (fun _ => (0, 0)) (f x) [.slice a l c] := by
  obtain ⟨n, hn⟩ := ht
  exact h.2.2 H enc w spare held n _ _ (by simpa [Value.cells] using hn)
/-- an argument of a struct's type -/
theorem Rd.struct {α : Type} {sz : Nat} {f : α → List FV} {p : α → Prop} (h : Rd P t sz f p) {H : Type} {enc : TypeId × Value → H} {w : World} {spare : Nat → Bool} {held : Bool} {cs : Array Value} {d : DataW H} {ps : List MemPlace} (ht : DataW.Trod enc P w 0 spare held t (.agg cs) d ps) :
    ∃ x, p x ∧ RF w (fun b => b < w.heap.size) (fun _ => False) (fun _ => (0, 0)) (.agg (f x)) (.agg cs) := by
  obtain ⟨n, hn⟩ := ht
  obtain ⟨x, hx, hr⟩ := h.2.2 H enc w spare held n _ _ (by simpa [Value.cells] using hn)
  exact ⟨x, hx, by simpa using RF.agg (f x) cs.toList hr⟩
end
end Go.FM
