/- One of the texts of a proof by an abstract machine over the model. -/
import Derived.Test.YthlhjepijodemaaAmF
set_option linter.unusedSimpArgs false
set_option linter.unusedVariables false
namespace Go.AM
open Go

mutual
def fz : AV → AV
  | .own sz xs => .list sz (fzss xs)
  | .list sz xs => .list sz xs
  | .agg cs => .agg (fzs cs)
  | .tup cs => .tup (fzs cs)
  | .undef => .undef
  | .int k n => .int k n
  | .bool b => .bool b
  | .str s => .str s
  | .fn f => .fn f
  | .nils sz => .list sz []
  | .ref cs => .ref cs
  | .box cs => .ref (fzs cs)
  | .loc t p => .loc t p
  | .bor t p => .bor t p
def fzs : List AV → List AV
  | [] => []
  | c :: cs => fz c :: fzs cs
def fzss : List (List AV) → List (List AV)
  | [] => []
  | c :: cs => fzs c :: fzss cs
end
theorem fzs_map (l : List AV) : fzs l = l.map fz := by
  induction l with
  | nil => rfl
  | cons c cs ih => simp [fzs, ih]
theorem fzss_map (l : List (List AV)) : fzss l = l.map (·.map fz) := by
  induction l with
  | nil => rfl
  | cons c cs ih => simp [fzss, ih, fzs_map]
theorem fzss_flatten (l : List (List AV)) : (fzss l).flatten = fzs l.flatten := by
  rw [fzss_map, fzs_map, List.map_flatten]
theorem fzss_length (l : List (List AV)) : (fzss l).length = l.length := by rw [fzss_map, List.length_map]

section
variable {w w' : World} {F F' : Nat → Prop}

mutual
theorem RV.fz {a : AV} {v : Value} {bs : List Nat} (h : RV w F a v bs) : RV w (fun b => F b ∨ b ∈ bs) (fz a) v [] :=
  match h with
  | .undef v => .undef v
  | .int k n => .int k n
  | .bool b => .bool b
  | .str s => .str s
  | .fn f => .fn f
  | .nils sz => .list sz [] none 0 [] (by simp) (by simp) (by simp) .nil
  | .list sz xs A cap vs hl hc hm h => (RV.list sz xs A cap vs hl hc hm h).keep (fun _ h => .inl h) fun _ _ => rfl
  | .own0 sz A => .list sz [] A 0 [] (by simp) (by simp) (by simp) .nil
  | .own sz xs g cap c T bs hg hl hn hc h => by
    have h1 := RVs.fzs h
    have h2 := RV.list (w := w) (F := fun b => F b ∨ b ∈ g :: bs) sz (fzss xs) (some ⟨g, 0, none⟩) cap (c.toList.take (xs.length * sz)) (fun x hx => by
      rw [fzss_map, List.mem_map] at hx
      obtain ⟨y, hy, rfl⟩ := hx
      simpa using hl y hy) (by rw [fzss_length]; exact hn) (fun _ => ⟨_, rfl, .inr (by simp), fun j v hv => by
        rw [add0, cell_blk hg]
        rw [List.getElem?_take] at hv
        split at hv
        · simpa using hv
        · cases hv⟩) (by rw [fzss_flatten]; exact h1.keep (fun b hb => hb.imp id (List.mem_cons_of_mem _)) fun _ _ => rfl)
    rw [fzss_length] at h2
    exact h2
  | .agg cs vs bs h => .agg _ vs [] (RVs.fzs h)
  | .tup cs vs bs h => .tup _ vs [] (RVs.fzs h)
  | .ref cs a vs hF hm h => (RV.ref cs a vs hF hm h).keep (fun _ h => .inl h) fun _ _ => rfl
  | .box cs g c T bs hg h => .ref (fzs cs) ⟨g, 0, none⟩ c.toList (.inr (by simp)) (fun j v hv => by rw [add0, cell_blk hg]; simpa using hv)
      ((RVs.fzs h).keep (fun b hb => hb.imp id (List.mem_cons_of_mem _)) fun _ _ => rfl)
theorem RVs.fzs {as : List AV} {vs : List Value} {bs : List Nat} (h : RVs w F as vs bs) : RVs w (fun b => F b ∨ b ∈ bs) (fzs as) vs [] :=
  match h with
  | .nil => .nil
  | .cons a v b as vs bs h hs => by
    have h1 := (RV.fz h).keep (F' := fun x => F x ∨ x ∈ b ++ bs) (w' := w) (fun x hx => by rcases hx with hx | hx <;> simp [hx]) fun _ _ => rfl
    have h2 := (RVs.fzs hs).keep (F' := fun x => F x ∨ x ∈ b ++ bs) (w' := w) (fun x hx => by rcases hx with hx | hx <;> simp [hx]) fun _ _ => rfl
    simpa [AM.fzs] using RVs.cons _ v [] _ vs [] h1 h2
end
end

/-- A function's contract: called with these arguments (some of their memory lent to it) it returns this, and the lent arguments then read as these. -/
def OC (P : Program) (f : FuncId) (args : List AV) (r : AV) (args' : List AV) : Prop :=
  ∀ (w : World) (F : Nat → Prop) (vs : List Value) (b : List Nat), (∀ y, F y → y < w.heap.size) → RVs w F args vs b → b.Nodup → (∀ y ∈ b, y < w.heap.size ∧ ¬ F y) →
    Calls P f vs.toArray w fun e w' => ∃ (v : Value) (F' : Nat → Prop) (b' br : List Nat), e = .returned v ∧ (∀ y, F y → F' y) ∧ (∀ y, F' y → (F y ∨ y ∈ b ∨ w.heap.size ≤ y) ∧ y < w'.heap.size) ∧
      RVs w' F' args' vs b' ∧ RV w' F' r v br ∧ (b' ++ br).Nodup ∧ (∀ y ∈ b' ++ br, y < w'.heap.size ∧ ¬ F' y ∧ (y ∈ b ∨ w.heap.size ≤ y)) ∧
      w.heap.size ≤ w'.heap.size ∧ (∀ y, y < w.heap.size → y ∉ b → w'.heap[y]? = w.heap[y]?) ∧ w'.os = w.os ∧ w'.tape = w.tape ∧ w'.output = w.output

/-- what a pure function's contract says of its arguments: nothing -/
def gone (args : List AV) : List AV := args.map fun _ => .undef

theorem RVs.gone {w : World} {F : Nat → Prop} {as : List AV} {vs : List Value} {bs : List Nat} (h : RVs w F as vs bs) {w' : World} {F' : Nat → Prop} : RVs w' F' (gone as) vs [] := by
  match h with
  | .nil => exact .nil
  | .cons a v b as vs bs h hs => exact RVs.cons .undef v [] _ vs [] (.undef v) (RVs.gone hs)

/-- A result may be frozen. -/
theorem OC.frz {P : Program} {f : FuncId} {args args' : List AV} {r : AV} (h : OC P f args r args') : OC P f args (fz r) args' := by
  intro w F vs b hF hv hn hb
  refine (h w F vs b hF hv hn hb).mono ?_
  rintro e w' ⟨v, F', b', br, he, h1, h2, h3, h4, h5, h6, h7, h8, h9⟩
  have hn5 := List.nodup_append.1 h5
  refine ⟨v, fun y => F' y ∨ y ∈ br, b', [], he, fun y hy => .inl (h1 y hy), fun y hy => ?_, h3.keep (fun _ h => .inl h) (fun _ _ => rfl), h4.fz, by simpa using hn5.1, fun y hy => ?_, h7, h8, h9⟩
  · rcases hy with hy | hy
    · exact h2 y hy
    · have := h6 y (by simp [hy]); exact ⟨.inr this.2.2, this.1⟩
  · simp at hy
    have := h6 y (by simp [hy])
    exact ⟨this.1, fun h => h.elim (fun h => this.2.1 h) (fun h => hn5.2.2 y hy y h rfl), this.2.2⟩

/-- a value that leads to no memory -/
def scalar : AV → Bool
  | .int .. | .bool _ | .str _ | .fn _ => true
  | .tup cs => cs.all fun | .int .. | .bool _ | .str _ => true | _ => false
  | .agg cs => cs.all fun | .int .. | .bool _ | .str _ => true | _ => false
  | _ => false
theorem RVs.scalars {w w' : World} {F F' : Nat → Prop} {cs : List AV} {vs : List Value} {b : List Nat} (h : RVs w F cs vs b) (hs : (cs.all fun | .int .. | .bool _ | .str _ => true | _ => false) = true) :
    RVs w' F' cs vs [] := by
  match h with
  | .nil => exact .nil
  | .cons a v b as vs bs h hs' =>
    simp only [List.all_cons, Bool.and_eq_true] at hs
    have h1 : RV w' F' a v [] := by cases h <;> first | (simp at hs; done) | exact RV.int _ _ | exact RV.bool _ | exact RV.str _
    exact RVs.cons a v [] as vs [] h1 (RVs.scalars hs' hs.2)
theorem RV.scalars {w w' : World} {F F' : Nat → Prop} {r : AV} {v : Value} {b : List Nat} (h : RV w F r v b) (hs : scalar r = true) : RV w' F' r v [] := by
  cases h <;> first | (simp [scalar] at hs; done) | exact RV.int _ _ | exact RV.bool _ | exact RV.str _ | exact RV.fn _ | exact RV.agg _ _ _ (RVs.scalars ‹_› hs) | exact RV.tup _ _ _ (RVs.scalars ‹_› hs)

/-- What is owned may be lent to a pure function that answers with a scalar: it is as it was. -/
theorem OC.lend {P : Program} {f : FuncId} {args args' : List AV} {r : AV} (h : OC P f (fzs args) r args') (hs : scalar r = true) : OC P f args r args := by
  intro w F vs b hF hv hn hb
  refine (h w (fun y => F y ∨ y ∈ b) vs [] (fun y hy => ?_) hv.fzs List.nodup_nil (by simp)).mono ?_
  · rcases hy with hy | hy
    · exact hF y hy
    · exact (hb y hy).1
  · rintro e w' ⟨v, F', b', br, he, h1, h2, h3, h4, h5, h6, h7, h8, h9⟩
    refine ⟨v, F, b, [], he, fun _ h => h, fun y hy => ⟨.inl hy, by have := hF y hy; omega⟩, hv.keep (fun _ h => h) (fun y hy => h8 y ?_ (by simp)), h4.scalars hs, by simpa using hn, fun y hy => ?_, h7, fun y hy _ => h8 y hy (by simp), h9⟩
    · rcases hy with hy | hy
      · exact hF y hy
      · exact (hb y hy).1
    · simp at hy
      exact ⟨by have := (hb y hy).1; omega, (hb y hy).2, .inl hy⟩
end Go.AM
