/- One of the texts of a proof by an abstract machine over the model. -/
import Derived.Test.YthlhjepijodemaaAmA
set_option linter.unusedSimpArgs false
set_option linter.unusedVariables false
namespace Go.AM
open Go

theorem flat_get {α : Type} (sz : Nat) : ∀ (xs : List (List α)) (i off : Nat) (x : List α), (∀ x ∈ xs, x.length = sz) → xs[i]? = some x → off < sz → xs.flatten[i * sz + off]? = x[off]?
  | [], _, _, _, _, h, _ => by simp at h
  | y :: ys, 0, off, x, hl, h, ho => by
    simp at h; subst h
    have := hl y (by simp)
    rw [List.flatten_cons, Nat.zero_mul, Nat.zero_add, List.getElem?_append_left (by omega)]
  | y :: ys, i + 1, off, x, hl, h, ho => by
    have hy := hl y (by simp)
    rw [List.flatten_cons, List.getElem?_append_right (by rw [hy, Nat.add_mul]; omega)]
    have := flat_get sz ys i off x (fun x hx => hl x (by simp [hx])) (by simpa using h) ho
    rw [← this, hy, Nat.add_mul]
    congr 1
    omega
theorem flat_set {α : Type} (sz : Nat) (c : α) : ∀ (xs : List (List α)) (i off : Nat) (x : List α), (∀ x ∈ xs, x.length = sz) → xs[i]? = some x → off < sz →
    (xs.modify i (·.set off c)).flatten = xs.flatten.set (i * sz + off) c
  | [], _, _, _, _, h, _ => by simp at h
  | y :: ys, 0, off, x, hl, h, ho => by
    have := hl y (by simp)
    rw [List.modify_cons]
    simp only [Nat.zero_mul, Nat.zero_add, if_true, List.flatten_cons]
    rw [List.set_append_left _ _ (by omega)]
  | y :: ys, i + 1, off, x, hl, h, ho => by
    have hy := hl y (by simp)
    have := flat_set sz c ys i off x (fun x hx => hl x (by simp [hx])) (by simpa using h) ho
    rw [List.modify_succ_cons, List.flatten_cons, this, List.flatten_cons, List.set_append_right _ _ (by rw [hy, Nat.add_mul]; omega), hy, Nat.add_mul]
    congr 2
    omega
theorem flat_length {α : Type} (sz : Nat) : ∀ (xs : List (List α)), (∀ x ∈ xs, x.length = sz) → xs.flatten.length = xs.length * sz
  | [], _ => by simp
  | y :: ys, hl => by
    have := flat_length sz ys (fun x hx => hl x (by simp [hx]))
    rw [List.flatten_cons, List.length_append, this, hl y (by simp), List.length_cons, Nat.add_mul]
    omega
theorem mem_modify_set {α : Type} (sz : Nat) (c : α) (xs : List (List α)) (i off : Nat) (hl : ∀ x ∈ xs, x.length = sz) : ∀ x ∈ xs.modify i (·.set off c), x.length = sz := by
  intro x hx
  obtain ⟨j, hj⟩ := List.getElem?_of_mem hx
  rw [List.getElem?_modify] at hj
  cases h : xs[j]? with
  | none => simp [h] at hj
  | some y =>
    have hy := hl y (List.mem_of_getElem? h)
    simp [h] at hj
    subst hj
    split <;> simp [hy]

/-! ### paths -/
def Stp.k (s : Stp) : Nat := s.i * s.sz + s.off

def baseOf : Value → Option Addr
  | .pointer (some a) => some a
  | .slice (some a) _ _ => some a
  | _ => none

/-- the concrete value of the cell one step from a value -/
def val1 (w : World) (v : Value) (s : Stp) : Option Value :=
  match v with
  | .agg cs => cs[s.off]?
  | v => (baseOf v).bind fun a => w.cell? (a.add s.k)
def valC (w : World) : Value → List Stp → Option Value
  | v, [] => some v
  | v, s :: p => (val1 w v s).bind fun u => valC w u p

def cellAt : AV → Stp → Option AV
  | .box cs, s => if s.i = 0 then cs[s.off]? else none
  | .own sz xs, s => if s.sz = sz then (xs[s.i]?).bind (·[s.off]?) else none
  | .agg cs, s => cs[s.off]?
  | _, _ => none
def nodeAt : AV → List Stp → Option AV
  | n, [] => some n
  | n, s :: p => (cellAt n s).bind fun m => nodeAt m p
def setCell1 : AV → Stp → AV → AV
  | .box cs, s, c => .box (cs.set s.off c)
  | .own sz xs, s, c => .own sz (xs.modify s.i (·.set s.off c))
  | .agg cs, s, c => .agg (cs.set s.off c)
  | n, _, _ => n
def setAt : AV → List Stp → AV → AV
  | _, [], c => c
  | n, s :: p, c => match cellAt n s with
    | some m => setCell1 n s (setAt m p c)
    | none => n

theorem add0 (g k : Nat) : (⟨g, 0, none⟩ : Addr).add k = ⟨g, k, none⟩ := by
  unfold Addr.add; split <;> simp_all
theorem set_same {α : Type} {l : List α} {k : Nat} {v : α} (h : l[k]? = some v) : l.set k v = l := by
  apply List.ext_getElem? 
  intro j
  rw [List.getElem?_set]
  split
  · rename_i e; subst e
    rw [h]
    split
    · rfl
    · rename_i hh; rw [List.getElem?_eq_none (by omega)] at h; cases h
  · rfl
theorem cell_blk {w : World} {g : Nat} {c : Array Value} {T : TypeId} {fr : Nat × Nat} (hg : w.heap[g]? = some (.cells c T fr)) (k : Nat) : w.cell? ⟨g, k, none⟩ = c[k]? := by
  simp [World.cell?, hg]
theorem frozen_blk {w : World} {g : Nat} {c : Array Value} {T : TypeId} (hg : w.heap[g]? = some (.cells c T (0, 0))) (k : Nat) : w.frozen? ⟨g, k, none⟩ = false := by
  simp [World.frozen?, hg]
theorem setCell_blk {w : World} {g : Nat} {c : Array Value} {T : TypeId} {fr : Nat × Nat} (hg : w.heap[g]? = some (.cells c T fr)) (k : Nat) (v : Value) :
    (w.setCell ⟨g, k, none⟩ v).heap[g]? = some (.cells (c.setIfInBounds k v) T fr) := by
  simp [World.setCell, Array.getElem?_modify, hg]
theorem setCell_far (w : World) (a : Addr) (v : Value) {b : Nat} (hb : b ≠ a.block) : (w.setCell a v).heap[b]? = w.heap[b]? := by
  simp [World.setCell, Array.getElem?_modify, Ne.symm hb]

section
variable {w w' : World} {F F' : Nat → Prop}

/-- One step into a tree: the cell's own value and blocks; what becomes of the whole where only that cell's content turns (its value stays);
and where the cell itself is written. -/
theorem RV.step {n : AV} {v : Value} {bs : List Nat} (h : RV w F n v bs) (s : Stp) {c : AV} (hc : cellAt n s = some c) :
    ∃ vc l1 bc l2, val1 w v s = some vc ∧ RV w F c vc bc ∧ bs = l1 ++ (bc ++ l2) ∧
      (∀ (w' : World) (F' : Nat → Prop) (c' : AV) (bc' : List Nat), (∀ b, F b → F' b) → (∀ b, F b ∨ b ∈ l1 ∨ b ∈ l2 → w'.heap[b]? = w.heap[b]?) → RV w' F' c' vc bc' →
        RV w' F' (setCell1 n s c') v (l1 ++ (bc' ++ l2))) ∧
      (∀ a, baseOf v = some a → a.block ∈ l1 ∧ a.off = 0 ∧ a.spot = none ∧ w.frozen? (a.add s.k) = false ∧
        ∀ (w' : World) (F' : Nat → Prop) (c' : AV) (vc' : Value) (bc' : List Nat), (∀ b, F b → F' b) → bs.Nodup → ¬ F a.block →
        (∀ b, b ≠ a.block → F b ∨ b ∈ l1 ∨ b ∈ l2 → w'.heap[b]? = w.heap[b]?) → w'.heap[a.block]? = (w.setCell (a.add s.k) vc').heap[a.block]? →
        RV w' F' c' vc' bc' → RV w' F' (setCell1 n s c') v (l1 ++ (bc' ++ l2))) := by
  cases h with
  | box cs g cells T bs hg h =>
    simp only [cellAt] at hc
    split at hc
    · rename_i hi
      obtain ⟨vc, l1, bc, l2, h1, h2, h3, h4⟩ := h.split s.off hc
      have hk : s.k = s.off := by simp [Stp.k, hi]
      refine ⟨vc, g :: l1, bc, l2, ?_, h2, by rw [h3]; rfl, fun w' F' c' bc' hF hb hc' => ?_, fun a ha => ?_⟩
      · simp only [val1, baseOf, Option.bind_some, hk, add0, cell_blk hg]; simpa using h1
      · have hset := h4 w' F' c' vc bc' hF (fun b hb' => hb b (by rcases hb' with h | h | h <;> simp [h])) hc'
        rw [set_same h1] at hset
        exact .box _ g cells T _ ((hb g (by simp)).trans hg) hset
      · simp only [baseOf, Option.some.injEq] at ha
        subst ha
        refine ⟨by simp, rfl, rfl, by rw [add0]; exact frozen_blk hg _, fun w' F' c' vc' bc' hF hnd hnF hb hg' hc' => ?_⟩
        have hgl : g ∉ l1 ∧ g ∉ l2 := by
          rw [h3] at hnd
          simp only [List.nodup_cons, List.mem_append, not_or] at hnd
          exact ⟨hnd.1.1, hnd.1.2.2⟩
        have hset := h4 w' F' c' vc' bc' hF (fun b hb' => hb b (by
          intro e; subst e
          rcases hb' with h | h | h
          · exact hnF h
          · exact hgl.1 h
          · exact hgl.2 h) (by rcases hb' with h | h | h <;> simp [h])) hc'
        refine .box _ g (cells.setIfInBounds s.off vc') T _ ?_ (by simpa using hset)
        rw [add0, setCell_blk hg, hk] at hg'
        exact hg'
    · simp at hc
  | own sz xs g cap cells T bs hg hl hn hcap h =>
    simp only [cellAt] at hc
    split at hc
    · rename_i hi
      rw [Option.bind_eq_some_iff] at hc
      obtain ⟨x, hx, hcx⟩ := hc
      have hxl := hl x (List.mem_of_getElem? hx)
      have ho : s.off < sz := by
        rcases Nat.lt_or_ge s.off sz with h | h
        · exact h
        · rw [List.getElem?_eq_none (by omega)] at hcx; cases hcx
      have hk : s.k = s.i * sz + s.off := by simp [Stp.k, hi]
      have hil : s.i < xs.length := by
        rcases Nat.lt_or_ge s.i xs.length with h | h
        · exact h
        · rw [List.getElem?_eq_none h] at hx; cases hx
      have hkl : s.k < xs.length * sz := by
        have := Nat.mul_le_mul_right sz (show s.i + 1 ≤ xs.length from hil)
        rw [Nat.add_mul] at this
        omega
      have hfl := flat_get sz xs s.i s.off x hl hx ho
      rw [hcx, ← hk] at hfl
      obtain ⟨vc, l1, bc, l2, h1, h2, h3, h4⟩ := h.split s.k hfl
      have hcell : cells[s.k]? = some vc := by
        rw [List.getElem?_take] at h1
        simpa [hkl] using h1
      have hst : ∀ c', (setCell1 (.own sz xs) s c') = .own sz (xs.modify s.i (·.set s.off c')) := fun _ => rfl
      have hlen : ∀ c' : AV, (xs.modify s.i (·.set s.off c')).length = xs.length := fun c' => by simp
      refine ⟨vc, g :: l1, bc, l2, ?_, h2, by rw [h3]; rfl, fun w' F' c' bc' hF hb hc' => ?_, fun a ha => ?_⟩
      · simp only [val1, baseOf, Option.bind_some, add0, cell_blk hg]; exact hcell
      · have hset := h4 w' F' c' vc bc' hF (fun b hb' => hb b (by rcases hb' with h | h | h <;> simp [h])) hc'
        rw [set_same h1, hk, ← flat_set sz c' xs s.i s.off x hl hx ho] at hset
        have := RV.own (w := w') (F := F') sz (xs.modify s.i (·.set s.off c')) g cap cells T (l1 ++ (bc' ++ l2)) ((hb g (by simp)).trans hg) (mem_modify_set sz c' xs _ _ hl)
          (by rw [hlen]; exact hn) hcap (by rw [hlen]; exact hset)
        rw [hlen] at this
        exact this
      · simp only [baseOf, Option.some.injEq] at ha
        subst ha
        refine ⟨by simp, rfl, rfl, by rw [add0]; exact frozen_blk hg _, fun w' F' c' vc' bc' hF hnd hnF hb hg' hc' => ?_⟩
        have hgl : g ∉ l1 ∧ g ∉ l2 := by
          rw [h3] at hnd
          simp only [List.nodup_cons, List.mem_append, not_or] at hnd
          exact ⟨hnd.1.1, hnd.1.2.2⟩
        have hset := h4 w' F' c' vc' bc' hF (fun b hb' => hb b (by
          intro e; subst e
          rcases hb' with h | h | h
          · exact hnF h
          · exact hgl.1 h
          · exact hgl.2 h) (by rcases hb' with h | h | h <;> simp [h])) hc'
        rw [hk, ← flat_set sz c' xs s.i s.off x hl hx ho] at hset
        rw [add0, setCell_blk hg] at hg'
        have := RV.own (w := w') (F := F') sz (xs.modify s.i (·.set s.off c')) g cap (cells.setIfInBounds s.k vc') T (l1 ++ (bc' ++ l2)) hg' (mem_modify_set sz c' xs _ _ hl)
          (by rw [hlen]; exact hn) (by simpa using hcap) (by
            rw [hlen, Array.toList_setIfInBounds, List.take_set, hk]
            exact hset)
        rw [hlen] at this
        exact this
    · simp at hc
  | agg cs vs bs h =>
    simp only [cellAt] at hc
    obtain ⟨vc, l1, bc, l2, h1, h2, h3, h4⟩ := h.split s.off hc
    refine ⟨vc, l1, bc, l2, by simpa [val1] using h1, h2, h3, fun w' F' c' bc' hF hb hc' => ?_, fun a ha => by simp [baseOf] at ha⟩
    have hset := h4 w' F' c' vc bc' hF hb hc'
    rw [set_same h1] at hset
    exact .agg _ _ _ hset
  | own0 sz A => simp [cellAt] at hc
  | _ => simp [cellAt] at hc

/-- A whole path: the node's own value and blocks; and what becomes of the whole where the node is replaced and its value stays. -/
theorem RV.path {n : AV} {v : Value} {bs : List Nat} (h : RV w F n v bs) (p : List Stp) {c : AV} (hc : nodeAt n p = some c) :
    ∃ vc l1 bc l2, valC w v p = some vc ∧ RV w F c vc bc ∧ bs = l1 ++ (bc ++ l2) ∧
      (∀ (w' : World) (F' : Nat → Prop) (c' : AV) (bc' : List Nat), (∀ b, F b → F' b) → (∀ b, F b ∨ b ∈ l1 ∨ b ∈ l2 → w'.heap[b]? = w.heap[b]?) → RV w' F' c' vc bc' →
        RV w' F' (setAt n p c') v (l1 ++ (bc' ++ l2))) := by
  induction p generalizing n v bs with
  | nil =>
    simp only [nodeAt, Option.some.injEq] at hc
    subst hc
    exact ⟨v, [], bs, [], rfl, h, by simp, fun w' F' c' bc' hF hb hc' => by simpa [setAt] using hc'⟩
  | cons s p ih =>
    simp only [nodeAt, Option.bind_eq_some_iff] at hc
    obtain ⟨m, hm, hc⟩ := hc
    obtain ⟨vm, k1, bm, k2, h1, h2, rfl, h4, _⟩ := h.step s hm
    obtain ⟨vc, l1, bc, l2, g1, g2, rfl, g4⟩ := ih h2 hc
    refine ⟨vc, k1 ++ l1, bc, l2 ++ k2, by simp [valC, h1, g1], g2, by simp, fun w' F' c' bc' hF hb hc' => ?_⟩
    have := h4 w' F' (setAt m p c') (l1 ++ (bc' ++ l2)) hF (fun b hb' => hb b (by rcases hb' with h | h | h <;> simp [h])) (g4 w' F' c' bc' hF (fun b hb' => hb b (by rcases hb' with h | h | h <;> simp [h])) hc')
    simpa [setAt, hm] using this
end
end Go.AM
