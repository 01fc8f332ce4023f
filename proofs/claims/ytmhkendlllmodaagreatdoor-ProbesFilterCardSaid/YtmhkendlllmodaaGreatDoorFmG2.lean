/- One of the texts of a proof by an abstract machine over the model. -/
import Derived.Test.YtmhkendlllmodaaGreatDoorFmG
import Derived.WalkKit
set_option linter.unusedSimpArgs false
set_option linter.unusedVariables false
namespace Go.FM
open Go

def chunks {α : Type} (sz : Nat) : Nat → List α → List (List α)
  | 0, _ => []
  | n + 1, l => l.take sz :: chunks sz n (l.drop sz)
theorem chunks_length {α : Type} (sz : Nat) : ∀ (n : Nat) (l : List α), (chunks sz n l).length = n
  | 0, _ => rfl
  | n + 1, l => by simp [chunks, chunks_length sz n]
theorem chunks_flatten {α : Type} (sz : Nat) : ∀ (n : Nat) (l : List α), l.length = n * sz → (chunks sz n l).flatten = l
  | 0, l, h => by have : l = [] := List.eq_nil_of_length_eq_zero (by simpa using h); subst this; rfl
  | n + 1, l, h => by
    rw [chunks, List.flatten_cons, chunks_flatten sz n (l.drop sz) (by rw [List.length_drop, h, Nat.add_mul]; omega), List.take_append_drop]
theorem chunks_row {α : Type} (sz : Nat) : ∀ (n : Nat) (l : List α), l.length = n * sz → ∀ x ∈ chunks sz n l, x.length = sz
  | 0, l, h => by simp [chunks]
  | n + 1, l, h => by
    intro x hx
    rw [chunks] at hx
    rcases List.mem_cons.1 hx with rfl | hx
    · rw [List.length_take, h, Nat.add_mul]; omega
    · exact chunks_row sz n (l.drop sz) (by rw [List.length_drop, h, Nat.add_mul]; omega) x hx

section
variable {P : Program} {X : Ctx} {c : Cfg} {w w' : World} {F F' : Nat → Prop} {U : Loc → Prop} {m m' : Loc → Nat × Nat} {s s' : FS} {a a' : Act} {o : Oper}

theorem RFs.of_get : ∀ {as : List FV} {vs : List Value}, as.length = vs.length → (∀ (i : Nat) (x : FV) (v : Value), as[i]? = some x → vs[i]? = some v → RF w F U m x v) → RFs w F U m as vs
  | [], [], _, _ => .nil
  | x :: as, v :: vs, hl, h => .cons x v as vs (h 0 x v (by simp) (by simp)) (RFs.of_get (by simpa using hl) fun i y u hy hu => h (i + 1) y u (by simpa using hy) (by simpa using hu))
  | [], _ :: _, hl, _ => by simp at hl
  | _ :: _, [], hl, _ => by simp at hl
theorem rep_get {α : Type} {z : List α} {n j : Nat} (hj : j < n * z.length) : (List.replicate n z).flatten[j]? = z[j % z.length]? := by
  have hz : 0 < z.length := by
    rcases Nat.eq_zero_or_pos z.length with h | h
    · rw [h] at hj; simp at hj
    · exact h
  have hq : j / z.length < n := Nat.div_lt_of_lt_mul (by rw [Nat.mul_comm]; exact hj)
  have := flat_get z.length (List.replicate n z) (j / z.length) (j % z.length) z (fun x hx => by rw [List.eq_of_mem_replicate hx]) (by simp [hq]) (Nat.mod_lt _ hz)
  rw [← this]
  congr 1
  rw [Nat.mul_comm]
  exact (Nat.div_add_mod j z.length).symm

/-- a new row of cells, an empty one too -/
theorem RelX.row (h : RelX X F m s a w) {l : Loc} {cells : Array Value} {T : TypeId} {rows : List (List FV)} {sz : Nat} (hl : s.H l = none) (hr : RFs w F (fun k => s.H k ≠ none) m rows.flatten cells.toList)
    (hlen : ∀ x ∈ rows, x.length = sz) (hsz : rows.length * sz = cells.size) (h0 : 0 < sz) :
    RelX X F (fun k => if k = l then (w.heap.size, cells.size) else m k) { s with H := upd s.H l (.cells T sz rows) } a (w.alloc (.cells cells T (0, 0))) := by
  by_cases hc : cells.size = 0
  · have hrow : rows = [] := by
      rw [hc] at hsz
      rcases Nat.mul_eq_zero.1 hsz with h1 | h1
      · exact List.eq_nil_of_length_eq_zero h1
      · omega
    subst hrow
    have hold : ∀ b, b < w.heap.size → (w.alloc (.cells cells T (0, 0))).heap[b]? = w.heap[b]? := fun b hb => by
      show (w.heap.push _)[b]? = _
      rw [Array.getElem?_push, if_neg (by omega)]
    exact h.fresh hl (by show w.heap.size < (w.heap.push _).size; simp) hold rfl rfl rfl (.inl ⟨rfl, by simp [hc]⟩)
  · exact h.alloc hl (by rw [hsz]; rw [List.take_of_length_le (by simp)]; exact hr) hlen (Nat.le_of_eq hsz) hc

/-! ### what an operation writes: named blocks, and its value -/
def upds (H : Heap) (us : List (Loc × FO)) : Heap := us.foldl (fun H u => upd H u.1 u.2) H
theorem upds_ne (us : List (Loc × FO)) : ∀ {H : Heap} {l : Loc}, H l ≠ none → upds H us l ≠ none := by
  induction us with
  | nil => exact fun h => h
  | cons u us ih => exact fun {H l} h => ih (H := upd H u.1 u.2) (by unfold upd; split <;> simp [h])
def WOk (P : Program) (s : FS) (o : Oper) (us : List (Loc × FO)) (v : FV) : Prop :=
  ∀ (X : Ctx) (F : Nat → Prop) (m : Loc → Nat × Nat) (a : Act) (w : World), RelX X F m s a w →
    ∃ (m' : Loc → Nat × Nat) (u : Value) (w' : World), Ran P o a w u w' ∧ RelX X F m' { s with H := upds s.H us } a w' ∧ RF w' F (fun l => upds s.H us l ≠ none) m' v u
theorem WOk.snd {us : List (Loc × FO)} {v : FV} (h : WOk P s o us v) (hs : putD c o v { s with H := upds s.H us } = some s') : Snd P c o s s' := by
  intro X F m a w hN hr
  obtain ⟨m', u, w', h1, h2, h3⟩ := h X F m a w hr
  exact ⟨m', u, w', h1, putD_ok h2 hN h3 hs⟩

/-- a new name for a new row of cells -/
theorem row_val (h : RelX X F m s a w) {l : Loc} {cells : Array Value} {T : TypeId} {rows : List (List FV)} {sz n : Nat} (hl : s.H l = none) (hr : RFs w F (fun k => s.H k ≠ none) m rows.flatten cells.toList)
    (hlen : ∀ x ∈ rows, x.length = sz) (hrl : rows.length = n) (hsz : n * sz = cells.size) (h0 : 0 < sz) (len : Nat) (hle : len ≤ n) :
    ∃ m', RelX X F m' { s with H := upds s.H [(l, .cells T sz rows)] } a (w.alloc (.cells cells T (0, 0))) ∧ RF (w.alloc (.cells cells T (0, 0))) F (fun k => upds s.H [(l, .cells T sz rows)] k ≠ none) m' (.sl l sz 0 len) (.slice (some ⟨w.heap.size, 0, none⟩) len n) := by
  refine ⟨_, h.row (T := T) hl hr hlen (by rw [hrl]; exact hsz) h0, ?_⟩
  have := RF.sl (w := w.alloc (.cells cells T (0, 0))) (F := F) (U := fun k => upds s.H [(l, .cells T sz rows)] k ≠ none) (m := fun k => if k = l then (w.heap.size, cells.size) else m k) l sz 0 len n 0 (by simp [upds, upd]) hle (.inr (by simp)) (by simp [hsz])
  simpa using this

/-! ### a slice's literal -/
def wBuildS (P : Program) (H : Heap) (ρ : Operand → FV) (nm : Loc) (t : TypeId) (len : Nat) (parts : Array (Nat × Operand)) : Option (List (Loc × FO) × FV) := match slT P t with
  | some (e, sz) => match zeroC P e with
    | some z => if (decide (z.length = sz) && (decide (0 < sz) && decide (len * sz ≤ 16777216))) && (H nm).isNone then
        (fillA (fun i => some (i * sz, sz)) (List.replicate len z).flatten ((parts.toList.map (·.1)).zip ((parts.toList.map (·.2)).map ρ))).bind fun r =>
          if r.length = len * sz then some ([(nm, .cells e sz (chunks sz len r))], .sl nm sz 0 len) else none
      else none
    | none => none
  | none => none
theorem rvs_ok' (h : RelX X F m s a w) : ∀ l : List Operand, RFs w F (fun l => s.H l ≠ none) m (l.map (rv s)) (l.map a.eval)
  | [] => .nil
  | x :: l => .cons _ _ _ _ (rv_ok h x) (rvs_ok' h l)
theorem zero_rep {z : List FV} {zc : Array Value} {sz len : Nat} (h0 : 0 < sz) (hzl : z.length = sz) (hzs : zc.size = sz) (hz : RFs w F U m z zc.toList) :
    RFs w F U m (List.replicate len z).flatten ((Array.range (len * sz)).map fun k => zc[k % zc.size]!).toList := by
  have hfl : (List.replicate len z).flatten.length = len * sz := by rw [flat_length sz _ (fun x hx => by rw [List.eq_of_mem_replicate hx]; exact hzl)]; simp
  refine RFs.of_get (by rw [hfl]; simp) fun i x v hx hv => ?_
  have hi : i < len * sz := by rw [← hfl]; exact (List.getElem?_eq_some_iff.1 hx).1
  rw [rep_get (by rw [hzl]; exact hi), hzl] at hx
  have hmod : i % sz < sz := Nat.mod_lt _ h0
  obtain ⟨u, k1, k2⟩ := hz.get (i % sz) hx
  have hv' : v = zc[i % sz]! := by
    rw [Array.getElem?_toList, Array.getElem?_map, Array.getElem?_range, if_pos hi] at hv
    simp only [Option.map_some, Option.some.injEq] at hv
    rw [← hv, hzs]
  have hu' : zc[i % sz]! = u := by
    rw [Array.getElem?_toList] at k1
    rw [Array.getElem!_eq_getD, Array.getD_eq_getD_getElem?, k1]; rfl
  rw [hv', hu']; exact k2
theorem wBuildS_ok {nm : Loc} {t : TypeId} {len : Nat} {parts : Array (Nat × Operand)} {us : List (Loc × FO)} {v : FV} (hs : wBuildS P s.H (rv s) nm t len parts = some (us, v)) (ho : o.op = .buildSlice t len parts) : WOk P s o us v := by
  intro X F m a w h
  unfold wBuildS at hs
  split at hs
  case h_2 => cases hs
  rename_i e sz ht
  obtain ⟨hu, hz⟩ := slT_some ht
  split at hs
  case h_2 => cases hs
  rename_i z hzc
  split at hs
  case isFalse => cases hs
  rename_i hc
  simp only [Bool.and_eq_true, decide_eq_true_eq, Option.isNone_iff_eq_none] at hc
  obtain ⟨⟨hzl, h0, h24⟩, hnm⟩ := hc
  rw [Option.bind_eq_some_iff] at hs
  obtain ⟨r, hr, hs⟩ := hs
  split at hs
  case isFalse => cases hs
  rename_i hrl
  simp only [Option.some.injEq, Prod.mk.injEq] at hs
  obtain ⟨rfl, rfl⟩ := hs
  obtain ⟨zv, g1, g2, g3⟩ := zeroC_ok (w := w) (F := F) (U := fun k => s.H k ≠ none) (m := m) hzc
  have hzs : zv.cells.size = sz := by omega
  have hbase := zero_rep (len := len) h0 hzl hzs g2
  obtain ⟨cells', k1, k2⟩ := fill_ok (w := w) (F := F) (U := fun k => s.H k ≠ none) (m := m) (fun i => some (i * sz, sz)) (parts.toList.map (·.1)) _ _ _ r _ (by simp) (rvs_ok' h (parts.toList.map (·.2))) hbase hr
  have hparts : (parts.map fun (i, x) => (i, a.eval x)).toList = (parts.toList.map (·.1)).zip ((parts.toList.map (·.2)).map a.eval) := by
    rw [Array.toList_map]
    generalize parts.toList = q
    induction q with
    | nil => rfl
    | cons x q ih => obtain ⟨i, x⟩ := x; simp only [List.map_cons, List.zip_cons_cons, ih]
  have hcs : cells'.size = len * sz := by have := k2.length; rw [hrl] at this; simpa using this.symm
  obtain ⟨m', h1, h2⟩ := row_val h (T := e) (cells := cells') (rows := chunks sz len r) (sz := sz) (n := len) hnm (by rw [chunks_flatten sz len r hrl]; exact k2) (chunks_row sz len r hrl) (chunks_length sz len r) (by rw [hcs]) h0 len (Nat.le_refl _)
  have hrun : (Instr.buildSlice t len (parts.map fun (i, x) => (i, a.eval x))).run P w = .ok (.slice (some ⟨w.heap.size, 0, none⟩) len len) (w.alloc (.cells cells' e (0, 0))) := by
    have h24' : ¬ (16777216 < len * sz) := by omega
    have hfill : Instr.fill (fun i => some (i * sz, sz)) ((Array.range (len * sz)).map fun k => zv.cells[k % zv.cells.size]!) (parts.map fun (i, x) => (i, a.eval x)).toList = some cells' := by rw [hparts]; exact k1
    by_cases hz0 : len * sz = 0
    · have e2 : ∀ f : Nat → Value, (Array.range 0).map f = #[] := fun f => by simp
      rw [hz0, e2] at hfill
      simp only [Instr.buildSlice, Sem.run_bind, run_underlying hu, Result.andThen_ok, run_szT hz, h24', if_false, hz0, if_true, Sem.run_pure, e2, hfill, newRow]
      simp
    · simp only [Instr.buildSlice, Sem.run_bind, run_underlying hu, Result.andThen_ok, run_szT hz, h24', if_false, hz0, g1, Sem.run_pure, hfill, newRow]
      simp
  exact ⟨m', _, _, .inl (by simp only [execOp, ho, Sem.run_bind, hrun]; rfl), h1, h2⟩
end
end Go.FM
