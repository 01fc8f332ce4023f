/- Texts of a proof by an abstract machine over the model. -/
import Derived.Test.YtmhkendlllmodaaGreatDoorP1
import Derived.WalkKit
import Derived.Deep.AppendSrc
import Derived.Deep.Upon
import Derived.MapKept
import Derived.StillTail
set_option linter.unusedSimpArgs false
set_option linter.unusedVariables false
namespace Go.FM
open Go

def chunks {α : Type} (sz : Nat) : Nat → List α → List (List α)
  | 0, _ => []
  | n + 1, l => l.take sz :: chunks sz n (l.drop sz)
theorem chunks_length {α : Type} (sz : Nat) : ∀ (n : Nat) (l : List α), (chunks sz n l).length = n
  | 0, _ => rfl
  | n + 1, l => by simp [chunks, chunks_length sz n]
theorem chunks_flatten {α : Type} (sz : Nat) : ∀ (n : Nat) (l : List α), l.length = n * sz → (chunks sz n l).flatten = l
  | 0, l, h => by have : l = [] := List.eq_nil_of_length_eq_zero (by simpa using h); subst this; rfl
  | n + 1, l, h => by
    rw [chunks, List.flatten_cons, chunks_flatten sz n (l.drop sz) (by rw [List.length_drop, h, Nat.add_mul]; omega), List.take_append_drop]
theorem chunks_row {α : Type} (sz : Nat) : ∀ (n : Nat) (l : List α), l.length = n * sz → ∀ x ∈ chunks sz n l, x.length = sz
  | 0, l, h => by simp [chunks]
  | n + 1, l, h => by
    intro x hx
    rw [chunks] at hx
    rcases List.mem_cons.1 hx with rfl | hx
    · rw [List.length_take, h, Nat.add_mul]; omega
    · exact chunks_row sz n (l.drop sz) (by rw [List.length_drop, h, Nat.add_mul]; omega) x hx

section
variable {P : Program} {X : Ctx} {c : Cfg} {w w' : World} {F F' : Nat → Prop} {U : Loc → Prop} {m m' : Loc → Nat × Nat} {s s' : FS} {a a' : Act} {o : Oper}

theorem RFs.of_get : ∀ {as : List FV} {vs : List Value}, as.length = vs.length → (∀ (i : Nat) (x : FV) (v : Value), as[i]? = some x → vs[i]? = some v → RF w F U m x v) → RFs w F U m as vs
  | [], [], _, _ => .nil
  | x :: as, v :: vs, hl, h => .cons x v as vs (h 0 x v (by simp) (by simp)) (RFs.of_get (by simpa using hl) fun i y u hy hu => h (i + 1) y u (by simpa using hy) (by simpa using hu))
  | [], _ :: _, hl, _ => by simp at hl
  | _ :: _, [], hl, _ => by simp at hl
theorem rep_get {α : Type} {z : List α} {n j : Nat} (hj : j < n * z.length) : (List.replicate n z).flatten[j]? = z[j % z.length]? := by
  have hz : 0 < z.length := by
    rcases Nat.eq_zero_or_pos z.length with h | h
    · rw [h] at hj; simp at hj
    · exact h
  have hq : j / z.length < n := Nat.div_lt_of_lt_mul (by rw [Nat.mul_comm]; exact hj)
  have := flat_get z.length (List.replicate n z) (j / z.length) (j % z.length) z (fun x hx => by rw [List.eq_of_mem_replicate hx]) (by simp [hq]) (Nat.mod_lt _ hz)
  rw [← this]
  congr 1
  rw [Nat.mul_comm]
  exact (Nat.div_add_mod j z.length).symm

/-- a new row of cells, an empty one too -/
theorem RelX.row (h : RelX X F m s a w) {l : Loc} {cells : Array Value} {T : TypeId} {rows : List (List FV)} {sz : Nat} (hl : s.H l = none) (hr : RFs w F (fun k => s.H k ≠ none) m rows.flatten cells.toList)
    (hlen : ∀ x ∈ rows, x.length = sz) (hsz : rows.length * sz = cells.size) (h0 : 0 < sz) :
    RelX X F (fun k => if k = l then (w.heap.size, cells.size) else m k) { s with H := upd s.H l (.cells T sz rows) } a (w.alloc (.cells cells T (0, 0))) := by
  by_cases hc : cells.size = 0
  · have hrow : rows = [] := by
      rw [hc] at hsz
      rcases Nat.mul_eq_zero.1 hsz with h1 | h1
      · exact List.eq_nil_of_length_eq_zero h1
      · omega
    subst hrow
    have hold : ∀ b, b < w.heap.size → (w.alloc (.cells cells T (0, 0))).heap[b]? = w.heap[b]? := fun b hb => by
      show (w.heap.push _)[b]? = _
      rw [Array.getElem?_push, if_neg (by omega)]
    exact h.fresh hl (by show w.heap.size < (w.heap.push _).size; simp) hold rfl rfl rfl (.inl ⟨rfl, by simp [hc]⟩)
  · exact h.alloc hl (by rw [hsz]; rw [List.take_of_length_le (by simp)]; exact hr) hlen (Nat.le_of_eq hsz) hc

/-! ### what an operation writes: named blocks, and its value -/
def upds (H : Heap) (us : List (Loc × FO)) : Heap := us.foldl (fun H u => upd H u.1 u.2) H
theorem upds_ne (us : List (Loc × FO)) : ∀ {H : Heap} {l : Loc}, H l ≠ none → upds H us l ≠ none := by
  induction us with
  | nil => exact fun h => h
  | cons u us ih => exact fun {H l} h => ih (H := upd H u.1 u.2) (by unfold upd; split <;> simp [h])
def WOk (P : Program) (s : FS) (o : Oper) (us : List (Loc × FO)) (v : FV) : Prop :=
  ∀ (X : Ctx) (F : Nat → Prop) (m : Loc → Nat × Nat) (a : Act) (w : World), RelX X F m s a w →
    ∃ (m' : Loc → Nat × Nat) (u : Value) (w' : World), Ran P o a w u w' ∧ RelX X F m' { s with H := upds s.H us } a w' ∧ RF w' F (fun l => upds s.H us l ≠ none) m' v u
theorem WOk.snd {us : List (Loc × FO)} {v : FV} (h : WOk P s o us v) (hs : putD c o v { s with H := upds s.H us } = some s') : Snd P c o s s' := by
  intro X F m a w hN hr
  obtain ⟨m', u, w', h1, h2, h3⟩ := h X F m a w hr
  exact ⟨m', u, w', h1, putD_ok h2 hN h3 hs⟩

/-- a new name for a new row of cells -/
theorem row_val (h : RelX X F m s a w) {l : Loc} {cells : Array Value} {T : TypeId} {rows : List (List FV)} {sz n : Nat} (hl : s.H l = none) (hr : RFs w F (fun k => s.H k ≠ none) m rows.flatten cells.toList)
    (hlen : ∀ x ∈ rows, x.length = sz) (hrl : rows.length = n) (hsz : n * sz = cells.size) (h0 : 0 < sz) (len : Nat) (hle : len ≤ n) :
    ∃ m', RelX X F m' { s with H := upds s.H [(l, .cells T sz rows)] } a (w.alloc (.cells cells T (0, 0))) ∧ RF (w.alloc (.cells cells T (0, 0))) F (fun k => upds s.H [(l, .cells T sz rows)] k ≠ none) m' (.sl l sz 0 len) (.slice (some ⟨w.heap.size, 0, none⟩) len n) := by
  refine ⟨_, h.row (T := T) hl hr hlen (by rw [hrl]; exact hsz) h0, ?_⟩
  have := RF.sl (w := w.alloc (.cells cells T (0, 0))) (F := F) (U := fun k => upds s.H [(l, .cells T sz rows)] k ≠ none) (m := fun k => if k = l then (w.heap.size, cells.size) else m k) l sz 0 len n 0 (by simp [upds, upd]) hle (.inr (by simp)) (by simp [hsz])
  simpa using this

/-! ### a slice's literal -/
def wBuildS (P : Program) (H : Heap) (ρ : Operand → FV) (nm : Loc) (t : TypeId) (len : Nat) (parts : Array (Nat × Operand)) : Option (List (Loc × FO) × FV) := match slT P t with
  | some (e, sz) => match zeroC P e with
    | some z => if (decide (z.length = sz) && (decide (0 < sz) && decide (len * sz ≤ 16777216))) && (H nm).isNone then
        (fillA (fun i => some (i * sz, sz)) (List.replicate len z).flatten ((parts.toList.map (·.1)).zip ((parts.toList.map (·.2)).map ρ))).bind fun r =>
          if r.length = len * sz then some ([(nm, .cells e sz (chunks sz len r))], .sl nm sz 0 len) else none
      else none
    | none => none
  | none => none
theorem rvs_ok' (h : RelX X F m s a w) : ∀ l : List Operand, RFs w F (fun l => s.H l ≠ none) m (l.map (rv s)) (l.map a.eval)
  | [] => .nil
  | x :: l => .cons _ _ _ _ (rv_ok h x) (rvs_ok' h l)
theorem zero_rep {z : List FV} {zc : Array Value} {sz len : Nat} (h0 : 0 < sz) (hzl : z.length = sz) (hzs : zc.size = sz) (hz : RFs w F U m z zc.toList) :
    RFs w F U m (List.replicate len z).flatten ((Array.range (len * sz)).map fun k => zc[k % zc.size]!).toList := by
  have hfl : (List.replicate len z).flatten.length = len * sz := by rw [flat_length sz _ (fun x hx => by rw [List.eq_of_mem_replicate hx]; exact hzl)]; simp
  refine RFs.of_get (by rw [hfl]; simp) fun i x v hx hv => ?_
  have hi : i < len * sz := by rw [← hfl]; exact (List.getElem?_eq_some_iff.1 hx).1
  rw [rep_get (by rw [hzl]; exact hi), hzl] at hx
  have hmod : i % sz < sz := Nat.mod_lt _ h0
  obtain ⟨u, k1, k2⟩ := hz.get (i % sz) hx
  have hv' : v = zc[i % sz]! := by
    rw [Array.getElem?_toList, Array.getElem?_map, Array.getElem?_range, if_pos hi] at hv
    simp only [Option.map_some, Option.some.injEq] at hv
    rw [← hv, hzs]
  have hu' : zc[i % sz]! = u := by
    rw [Array.getElem?_toList] at k1
    rw [Array.getElem!_eq_getD, Array.getD_eq_getD_getElem?, k1]; rfl
  rw [hv', hu']; exact k2
theorem wBuildS_ok {nm : Loc} {t : TypeId} {len : Nat} {parts : Array (Nat × Operand)} {us : List (Loc × FO)} {v : FV} (hs : wBuildS P s.H (rv s) nm t len parts = some (us, v)) (ho : o.op = .buildSlice t len parts) : WOk P s o us v := by
  intro X F m a w h
  unfold wBuildS at hs
  split at hs
  case h_2 => cases hs
  rename_i e sz ht
  obtain ⟨hu, hz⟩ := slT_some ht
  split at hs
  case h_2 => cases hs
  rename_i z hzc
  split at hs
  case isFalse => cases hs
  rename_i hc
  simp only [Bool.and_eq_true, decide_eq_true_eq, Option.isNone_iff_eq_none] at hc
  obtain ⟨⟨hzl, h0, h24⟩, hnm⟩ := hc
  rw [Option.bind_eq_some_iff] at hs
  obtain ⟨r, hr, hs⟩ := hs
  split at hs
  case isFalse => cases hs
  rename_i hrl
  simp only [Option.some.injEq, Prod.mk.injEq] at hs
  obtain ⟨rfl, rfl⟩ := hs
  obtain ⟨zv, g1, g2, g3⟩ := zeroC_ok (w := w) (F := F) (U := fun k => s.H k ≠ none) (m := m) hzc
  have hzs : zv.cells.size = sz := by omega
  have hbase := zero_rep (len := len) h0 hzl hzs g2
  obtain ⟨cells', k1, k2⟩ := fill_ok (w := w) (F := F) (U := fun k => s.H k ≠ none) (m := m) (fun i => some (i * sz, sz)) (parts.toList.map (·.1)) _ _ _ r _ (by simp) (rvs_ok' h (parts.toList.map (·.2))) hbase hr
  have hparts : (parts.map fun (i, x) => (i, a.eval x)).toList = (parts.toList.map (·.1)).zip ((parts.toList.map (·.2)).map a.eval) := by
    rw [Array.toList_map]
    generalize parts.toList = q
    induction q with
    | nil => rfl
    | cons x q ih => obtain ⟨i, x⟩ := x; simp only [List.map_cons, List.zip_cons_cons, ih]
  have hcs : cells'.size = len * sz := by have := k2.length; rw [hrl] at this; simpa using this.symm
  obtain ⟨m', h1, h2⟩ := row_val h (T := e) (cells := cells') (rows := chunks sz len r) (sz := sz) (n := len) hnm (by rw [chunks_flatten sz len r hrl]; exact k2) (chunks_row sz len r hrl) (chunks_length sz len r) (by rw [hcs]) h0 len (Nat.le_refl _)
  have hrun : (Instr.buildSlice t len (parts.map fun (i, x) => (i, a.eval x))).run P w = .ok (.slice (some ⟨w.heap.size, 0, none⟩) len len) (w.alloc (.cells cells' e (0, 0))) := by
    have h24' : ¬ (16777216 < len * sz) := by omega
    have hfill : Instr.fill (fun i => some (i * sz, sz)) ((Array.range (len * sz)).map fun k => zv.cells[k % zv.cells.size]!) (parts.map fun (i, x) => (i, a.eval x)).toList = some cells' := by rw [hparts]; exact k1
    by_cases hz0 : len * sz = 0
    · have e2 : ∀ f : Nat → Value, (Array.range 0).map f = #[] := fun f => by simp
      rw [hz0, e2] at hfill
      simp only [Instr.buildSlice, Sem.run_bind, run_underlying hu, Result.andThen_ok, run_szT hz, h24', if_false, hz0, if_true, Sem.run_pure, e2, hfill, newRow]
      simp
    · simp only [Instr.buildSlice, Sem.run_bind, run_underlying hu, Result.andThen_ok, run_szT hz, h24', if_false, hz0, g1, Sem.run_pure, hfill, newRow]
      simp
  exact ⟨m', _, _, .inl (by simp only [execOp, ho, Sem.run_bind, hrun]; rfl), h1, h2⟩
end
end Go.FM
namespace Go.FM
open Go

section
variable {P : Program} {X : Ctx} {c : Cfg} {w w' : World} {F F' : Nat → Prop} {U : Loc → Prop} {m m' : Loc → Nat × Nat} {s s' : FS} {a a' : Act} {o : Oper}

/-! ### new variables; stores -/
def wAlloc (P : Program) (H : Heap) (nm : Loc) (t : TypeId) : Option (List (Loc × FO) × FV) := match zeroC P t with
  | some cs => if (H nm).isNone then (if cs.isEmpty then some ([(nm, .cells t 0 [])], .ptr nm 0 0 0) else some ([(nm, .cells t cs.length [cs])], .ptr nm cs.length 0 0)) else none
  | none => none
def wBox (H : Heap) (nm : Loc) (t : TypeId) (x : FV) : Option (List (Loc × FO) × FV) :=
  if (x.storable && !x.cellsL.isEmpty) && (H nm).isNone then some ([(nm, .cells t x.cellsL.length [x.cellsL])], .ptr nm x.cellsL.length 0 0) else none
def wStore (P : Program) (H : Heap) (t : TypeId) (ad x : FV) : Option (List (Loc × FO) × FV) := match szT P t, ad with
  | some 0, .ptr .. => match x with
    | .agg [] => some ([], .undef)
    | _ => none
  | some n, .ptr l sz i off => match H l with
    | some (.cells T sz' xs) => match xs[i]? with
      | some r => if decide (sz' = sz) && (decide (x.cellsL.length = n) && (x.storable && decide (off + n ≤ r.length))) then
          some ([(l, .cells T sz (xs.modify i fun r => r.take off ++ x.cellsL ++ r.drop (off + x.cellsL.length)))], .undef) else none
      | none => none
    | _ => none
  | _, _ => none
theorem new_w (h : RelX X F m s a w) {l : Loc} {cs : List FV} {v : Value} {t : TypeId} (hl : s.H l = none) (hcs : RFs w F (fun k => s.H k ≠ none) m cs v.cells.toList) (h0 : cs ≠ []) :
    ∃ m', RelX X F m' { s with H := upds s.H [(l, .cells t cs.length [cs])] } a (w.alloc (.cells v.cells t (0, 0))) ∧ RF (w.alloc (.cells v.cells t (0, 0))) F (fun k => upds s.H [(l, .cells t cs.length [cs])] k ≠ none) m' (.ptr l cs.length 0 0) (.pointer (some ⟨w.heap.size, 0, none⟩)) := by
  have hlen := hcs.length
  have hsz : v.cells.size = cs.length := by rw [hlen]; simp
  have hpos : 0 < cs.length := List.length_pos_iff.2 h0
  refine ⟨_, h.alloc (T := t) (cells := v.cells) (rows := [cs]) (sz := cs.length) hl (by
    simp only [List.flatten_cons, List.flatten_nil, List.append_nil, List.length_cons, List.length_nil, Nat.zero_add, Nat.one_mul]
    rw [List.take_of_length_le (by simp [hsz])]
    exact hcs) (by simp) (by simp [hsz]) (by omega), ?_⟩
  have := RF.ptr (w := w.alloc (.cells v.cells t (0, 0))) (F := F) (U := fun k => upds s.H [(l, .cells t cs.length [cs])] k ≠ none) (m := fun k => if k = l then (w.heap.size, v.cells.size) else m k) l cs.length 0 0 (by simp [upds, upd])
  simpa using this
theorem wAlloc_ok {nm : Loc} {t : TypeId} {us : List (Loc × FO)} {v : FV} (hs : wAlloc P s.H nm t = some (us, v)) (ho : o.op = .alloc t) : WOk P s o us v := by
  intro X F m a w h
  unfold wAlloc at hs
  split at hs
  case h_2 => cases hs
  rename_i cs hz
  split at hs
  case isFalse => cases hs
  rename_i hc
  simp only [Option.isNone_iff_eq_none] at hc
  obtain ⟨z, hz1, hz2, hz3⟩ := zeroC_ok (w := w) (F := F) (U := fun k => s.H k ≠ none) (m := m) hz
  split at hs
  · rename_i he
    simp only [Option.some.injEq, Prod.mk.injEq] at hs
    obtain ⟨rfl, rfl⟩ := hs
    have hcs : cs = [] := by simpa using he
    have hz0 : z.cells.size = 0 := by rw [← hz3, hcs]; rfl
    have hold : ∀ b, b < w.heap.size → (w.alloc (.cells z.cells t (0, 0))).heap[b]? = w.heap[b]? := fun b hb => by
      show (w.heap.push _)[b]? = _
      rw [Array.getElem?_push, if_neg (by omega)]
    have hR := h.fresh (l := nm) (o := .cells t 0 []) (n := 0) (w' := w.alloc (.cells z.cells t (0, 0))) hc (by show w.heap.size < (w.heap.push _).size; simp) hold rfl rfl rfl (.inl ⟨rfl, by simp⟩)
    refine ⟨_, .pointer (some ⟨w.heap.size, 0, none⟩), _, .inl (by simp [execOp, ho, Instr.alloc, hz1, newVar_run]), hR, ?_⟩
    have := RF.ptr (w := w.alloc (.cells z.cells t (0, 0))) (F := F) (U := fun k => upds s.H [(nm, .cells t 0 [])] k ≠ none) (m := fun k => if k = nm then (w.heap.size, 0) else m k) nm 0 0 0 (by simp [upds, upd])
    simpa using this
  · rename_i he
    simp only [Option.some.injEq, Prod.mk.injEq] at hs
    obtain ⟨rfl, rfl⟩ := hs
    obtain ⟨m', h1, h2⟩ := new_w (t := t) h hc hz2 (by simpa using he)
    exact ⟨m', _, _, .inl (by simp [execOp, ho, Instr.alloc, hz1, newVar_run]), h1, h2⟩
theorem wBox_ok {nm : Loc} {t : TypeId} {x : Operand} {us : List (Loc × FO)} {v : FV} (hs : wBox s.H nm t (rv s x) = some (us, v)) (ho : o.op = .box t x) : WOk P s o us v := by
  intro X F m a w h
  unfold wBox at hs
  split at hs
  case isFalse => cases hs
  rename_i hc
  simp only [Bool.and_eq_true, Bool.not_eq_true', List.isEmpty_eq_false_iff, Option.isNone_iff_eq_none] at hc
  simp only [Option.some.injEq, Prod.mk.injEq] at hs
  obtain ⟨rfl, rfl⟩ := hs
  obtain ⟨g1, g2⟩ := (rv_ok h x).cells hc.1.1
  obtain ⟨m', h1, h2⟩ := new_w (t := t) h hc.2 g1 hc.1.2
  exact ⟨m', _, _, .inl (by simp [execOp, ho, Instr.box, newVar_run]), h1, h2⟩
theorem wStore_ok {t : TypeId} {ad x : Operand} {us : List (Loc × FO)} {v : FV} (hs : wStore P s.H t (rv s ad) (rv s x) = some (us, v)) (ho : o.op = .store t ad x) : WOk P s o us v := by
  intro X F m a w h
  unfold wStore at hs
  split at hs
  case h_3 => cases hs
  case h_1 =>
    rename_i l sz i off hz hp
    split at hs
    case h_2 => cases hs
    rename_i hx
    simp only [Option.some.injEq, Prod.mk.injEq] at hs
    obtain ⟨rfl, rfl⟩ := hs
    have hxv := rv_ok h x
    rw [hx] at hxv
    have had := rv_ok h ad
    rw [hp] at had
    generalize hxe : a.eval x = vx at hxv
    generalize hva : a.eval ad = va at had
    cases hxv with
    | agg _ vs hvs =>
    cases hvs
    cases had
    exact ⟨m, undef, w, .inr ⟨by simp [execOp, ho, hva, hxe, Instr.storeAt, Instr.sureAddr, storeVar, run_szT hz, Value.cells, storeCells], rfl⟩, h, .undef _⟩
  rename_i n l sz i off _ hz hp
  split at hs
  case h_2 => cases hs
  rename_i T sz' xs hl
  split at hs
  case h_2 => cases hs
  rename_i r hr
  split at hs
  case isFalse => cases hs
  rename_i hc
  simp only [Bool.and_eq_true, decide_eq_true_eq] at hc
  obtain ⟨rfl, hn, hst, hle⟩ := hc
  simp only [Option.some.injEq, Prod.mk.injEq] at hs
  obtain ⟨rfl, rfl⟩ := hs
  obtain ⟨g1, g2⟩ := (rv_ok h x).cells hst
  have had := rv_ok h ad
  rw [hp] at had
  generalize hva : a.eval ad = va at had
  cases had
  have hlen := g1.length
  obtain ⟨w', k1, k2⟩ := h.store (P := P) (off := off) hl hr (by omega) g1 (g1.one g2)
  have hsz : (a.eval x).cells.size = n := by rw [← hn, hlen]; simp
  exact ⟨m, undef, w', .inr ⟨by simp [execOp, ho, hva, Instr.storeAt, Instr.sureAddr, storeVar, run_szT hz, hsz, k1], rfl⟩, k2, .undef _⟩

/-! ### make -/
def wMakeS (P : Program) (H : Heap) (nm : Loc) (t : TypeId) (x y : FV) : Option (List (Loc × FO) × FV) := match slT P t, x, y with
  | some (e, sz), .int _ len, .int _ cap => match zeroC P e, byT P e with
    | some z, some by_ => if ((decide (z.length = sz) && decide (0 < sz)) && ((decide (0 ≤ len) && decide (len ≤ cap)) && (decide (cap ≤ 4611686018427387904) && decide ((by_ : Int) * cap ≤ 281474976710656)))) && (H nm).isNone then
        some ([(nm, .cells e sz (List.replicate cap.toNat z))], .sl nm sz 0 len.toNat) else none
    | _, _ => none
  | _, _, _ => none
theorem wMakeS_ok {nm : Loc} {t : TypeId} {x y : Operand} {us : List (Loc × FO)} {v : FV} (hs : wMakeS P s.H nm t (rv s x) (rv s y) = some (us, v)) (ho : o.op = .makeSlice t x y) : WOk P s o us v := by
  intro X F m a w h
  unfold wMakeS at hs
  split at hs
  case h_2 => cases hs
  rename_i e sz k1 len k2 cap ht hx hy
  obtain ⟨hu, hz⟩ := slT_some ht
  split at hs
  case h_2 => cases hs
  rename_i z by_ hzc hby
  obtain ⟨i, hi, rfl⟩ := byT_some hby
  split at hs
  case isFalse => cases hs
  rename_i hc
  simp only [Bool.and_eq_true, decide_eq_true_eq, Option.isNone_iff_eq_none] at hc
  obtain ⟨⟨⟨hzl, h0⟩, ⟨hl0, hlc⟩, hc62, hb⟩, hnm⟩ := hc
  simp only [Option.some.injEq, Prod.mk.injEq] at hs
  obtain ⟨rfl, rfl⟩ := hs
  have hxv := rv_ok h x
  have hyv := rv_ok h y
  rw [hx] at hxv
  rw [hy] at hyv
  generalize hxe : a.eval x = vx at hxv
  generalize hye : a.eval y = vy at hyv
  cases hxv; cases hyv
  obtain ⟨zv, g1, g2, g3⟩ := zeroC_ok (w := w) (F := F) (U := fun k => s.H k ≠ none) (m := m) hzc
  have hzs : zv.cells.size = sz := by omega
  have hbase := zero_rep (len := cap.toNat) h0 hzl hzs g2
  obtain ⟨m', h1, h2⟩ := row_val h (T := e) (cells := (Array.range (cap.toNat * sz)).map fun k => zv.cells[k % zv.cells.size]!) (rows := List.replicate cap.toNat z) (sz := sz) (n := cap.toNat) hnm hbase
    (fun x hx => by rw [List.eq_of_mem_replicate hx]; exact hzl) (by simp) (by simp) h0 len.toNat (by omega)
  have hw1 : IntKind.i64.wrap len = len := by rw [IntKind.wrap_i64]; omega
  have hw2 : IntKind.i64.wrap cap = cap := by rw [IntKind.wrap_i64]; omega
  have hrun : (Instr.makeSlice t (.int k1 len) (.int k2 cap)).run P w = .ok (.slice (some ⟨w.heap.size, 0, none⟩) len.toNat cap.toNat) (w.alloc (.cells ((Array.range (cap.toNat * sz)).map fun k => zv.cells[k % zv.cells.size]!) e (0, 0))) := by
    have c1 : ¬ cap < 0 := by omega
    have c2 : ¬ (281474976710656 < (i.bytes : Int) * cap) := by omega
    have c3 : ¬ len < 0 := by omega
    have c4 : ¬ cap < len := by omega
    by_cases hz0 : cap.toNat * sz = 0
    · have e2 : ∀ f : Nat → Value, (Array.range 0).map f = #[] := fun f => by simp
      simp only [hz0, e2]
      simp [Instr.makeSlice, run_underlying hu, asInt, asIntOf, hw1, hw2, typeInfo, hi, run_szT hz, hz0, c1, c2, c3, c4, newRow]
      rw [e2]
    · simp [Instr.makeSlice, run_underlying hu, asInt, asIntOf, hw1, hw2, typeInfo, hi, run_szT hz, hz0, c1, c2, c3, c4, g1, newRow]
  exact ⟨m', _, _, .inl (by simp only [execOp, ho, hxe, hye, Sem.run_bind, hrun]; rfl), h1, h2⟩

/-! ### maps, iterators -/
theorem RelX.obj (h : RelX X F m s a w) {l : Loc} {ob : Obj} {o : FO} {n : Nat} (hl : s.H l = none) (ho : OR (w.alloc ob) F (upd s.H l o) (fun k => if k = l then (w.heap.size, n) else m k) l o) :
    RelX X F (fun k => if k = l then (w.heap.size, n) else m k) { s with H := upd s.H l o } a (w.alloc ob) := by
  obtain ⟨_, h2⟩ := MapKept.heap_alloc w ob
  exact h.fresh hl (by show w.heap.size < (w.heap.push _).size; simp) h2 rfl rfl rfl ho
/-- a named block that is no row of cells turns -/
theorem RelX.turn (h : RelX X F m s a w) {l : Loc} {o0 o : FO} {ob0 ob : Obj} (hl : s.H l = some o0) (hne0 : o0 ≠ .dead) (h0 : (m l).2 ≠ 0) (hne : o ≠ .dead) (hob : w.heap[(m l).1]? = some ob0)
    (ho : ∀ w' : World, w'.heap[(m l).1]? = some ob → (∀ b, b ≠ (m l).1 → w'.heap[b]? = w.heap[b]?) → OR w' F (upd s.H l o) m l o) :
    RelX X F m { s with H := upd s.H l o } a { w with heap := w.heap.setIfInBounds (m l).1 ob } := by
  obtain ⟨g1, g2⟩ := MapKept.heap_set (o' := ob) hob
  exact h.write hl ⟨o0, hl, hne0, h0⟩ hne (by simp) (fun b _ hb => g2 b hb) rfl rfl rfl (ho _ g1 g2)
theorem run_getMap {l : Nat} {es : Array MapEntry} {clk : Nat} (h : w.heap[l]? = some (.map es clk)) : (getObj l).run P w = .ok (.map es clk) w := by simp [getObj, Sem.run, h]
theorem run_setMap {l : Nat} {es : Array MapEntry} {clk : Nat} (o : Obj) (h : w.heap[l]? = some (.map es clk)) : (setObj l o).run P w = .ok () { w with heap := w.heap.setIfInBounds l o } := by simp [setObj, Sem.run, h]
theorem run_getIter {l : Nat} {q : Option Nat} {since last : Nat} {seen : Array Nat} (h : w.heap[l]? = some (.mapIter q since seen last)) : (getObj l).run P w = .ok (.mapIter q since seen last) w := by simp [getObj, Sem.run, h]
theorem run_setIter {l : Nat} {q : Option Nat} {since last : Nat} {seen : Array Nat} (o : Obj) (h : w.heap[l]? = some (.mapIter q since seen last)) : (setObj l o).run P w = .ok () { w with heap := w.heap.setIfInBounds l o } := by simp [setObj, Sem.run, h]

def wMakeM (P : Program) (H : Heap) (nm : Loc) (r : Option FV) : Option (List (Loc × FO) × FV) := match r with
  | none => if (H nm).isNone then some ([(nm, .map [] 0)], .mp nm) else none
  | _ => none
theorem wMakeM_ok {nm : Loc} {t : TypeId} {r : Option Operand} {us : List (Loc × FO)} {v : FV} (hs : wMakeM P s.H nm (r.map (rv s)) = some (us, v)) (ho : o.op = .makeMap t r) : WOk P s o us v := by
  intro X F m a w h
  cases r with
  | some r => simp [wMakeM] at hs
  | none =>
  simp only [wMakeM, Option.map_none] at hs
  split at hs
  case isFalse => cases hs
  rename_i hc
  simp only [Option.isNone_iff_eq_none] at hc
  simp only [Option.some.injEq, Prod.mk.injEq] at hs
  obtain ⟨rfl, rfl⟩ := hs
  obtain ⟨g1, _⟩ := MapKept.heap_alloc w (.map #[] 0)
  refine ⟨_, .map (some w.heap.size), _, .inl (by simp [execOp, ho, Instr.makeMap]), h.obj (n := 1) (ob := .map #[] 0) (o := .map [] 0) hc ⟨by simp, #[], by simpa using g1, .nil⟩, ?_⟩
  have := RF.mp (w := w.alloc (.map #[] 0)) (F := F) (U := fun k => upds s.H [(nm, .map [] 0)] k ≠ none) (m := fun k => if k = nm then (w.heap.size, 1) else m k) nm (by simp [upds, upd])
  simpa using this

def wMapU (P : Program) (H : Heap) (t : TypeId) (x k v : FV) : Option (List (Loc × FO) × FV) := match mpT P t, x with
  | some (kt, _), .mp l => match H l with
    | some (.map es clk) => if keyOk P kt k then (match findA P kt k es 0 with
      | some (some (i, _)) => some ([(l, .map (es.modify i fun e => (k, v, e.2.2)) clk)], .undef)
      | some none => some ([(l, .map (es ++ [(k, v, clk)]) (clk + 1))], .undef)
      | none => none) else none
    | _ => none
  | _, _ => none
theorem REs.modify {es : List (FV × FV × Nat)} {xs : List MapEntry} (h : REs w F U m es xs) {k v : FV} {vk vv : Value} (hk : RF w F U m k vk) (hv : RF w F U m v vv) (i : Nat) :
    REs w F U m (es.modify i fun e => (k, v, e.2.2)) (xs.modify i fun e => { e with key := vk, val := vv }) := by
  induction h generalizing i with
  | nil => simpa using REs.nil
  | cons e x es xs h hs ih =>
    cases i with
    | zero => simpa using REs.cons (k, v, e.2.2) { x with key := vk, val := vv } _ _ ⟨hk, hv, h.born⟩ hs
    | succ i => simpa using REs.cons _ _ _ _ h (ih i)
theorem REs.get {es : List (FV × FV × Nat)} {xs : List MapEntry} (h : REs w F U m es xs) {i : Nat} {e : FV × FV × Nat} (he : es[i]? = some e) : ∃ x, xs[i]? = some x ∧ RE w F U m e x := by
  induction h generalizing i with
  | nil => simp at he
  | cons e' x es xs h hs ih =>
    cases i with
    | zero => simp at he; subst he; exact ⟨x, by simp, h⟩
    | succ i =>
      obtain ⟨y, g1, g2⟩ := ih (by simpa using he)
      exact ⟨y, by simpa using g1, g2⟩
theorem findA_same {t : TypeId} {k : FV} : ∀ {es : List (FV × FV × Nat)} {i : Nat} {j : Nat} {v : FV}, findA P t k es i = some (some (j, v)) → ∃ n e, j = i + n ∧ es[n]? = some e ∧ eqK P t k e.1 = some true
  | [], i, j, v, h => by simp [findA] at h
  | e :: es, i, j, v, h => by
    simp only [findA] at h
    split at h
    · rename_i hq
      simp only [Option.some.injEq, Prod.mk.injEq] at h
      exact ⟨0, e, by omega, by simp, hq⟩
    · obtain ⟨n, e', h1, h2, h3⟩ := findA_same h
      exact ⟨n + 1, e', by omega, by simpa using h2, h3⟩
    · cases h
theorem eqV_symm (x y : FV) : eqV x y = eqV y x := by
  cases x <;> cases y <;> simp [eqV, eq_comm, Bool.beq_comm]
theorem eqCells_symm : ∀ (ks : List Kd) (xs ys : List FV), xs.length = ks.length → ys.length = ks.length → eqCells ks xs ys = eqCells ks ys xs
  | [], _, _, _, _ => rfl
  | k :: ks, x :: xs, y :: ys, h1, h2 => by
    simp only [eqCells, eqCells_symm ks xs ys (by simpa using h1) (by simpa using h2), eqV_symm x y]
    split <;> split <;> rfl
theorem eqK_symm {t : TypeId} {x y : FV} : eqK P t x y = eqK P t y x := by
  unfold eqK
  split
  · rw [eqV_symm x y]; split <;> split <;> rfl
  · cases stT P t with
    | none => rfl
    | some ks =>
      cases x <;> cases y <;> first | rfl | skip
      rename_i xs ys
      simp only
      by_cases h1 : xs.length = ks.length <;> by_cases h2 : ys.length = ks.length <;> simp only [h1, h2, if_true, if_false]
      exact eqCells_symm ks xs ys h1 h2
theorem wMapU_ok {t : TypeId} {x k v : Operand} {us : List (Loc × FO)} {r : FV} (hs : wMapU P s.H t (rv s x) (rv s k) (rv s v) = some (us, r)) (ho : o.op = .mapUpdate t x k v ∨ o.op = .insert t x k v) : WOk P s o us r := by
  intro X F m a w h
  unfold wMapU at hs
  split at hs
  case h_2 => cases hs
  rename_i kt et l hmt hx
  have hmt := mpT_some hmt
  split at hs
  case h_2 => cases hs
  rename_i es clk hl
  split at hs
  case isFalse => cases hs
  rename_i hko
  have hxv := rv_ok h x
  rw [hx] at hxv
  generalize hxe : a.eval x = vx at hxv
  cases hxv with
  | mp _ hul =>
  have hkv := rv_ok h k
  have hvv := rv_ok h v
  obtain ⟨h0, ar, g1, g2⟩ := h.heap.obj _ _ hl
  have hck := checkKey_run (P := P) hko hkv false 9998 w
  have hexec : (execOp a.eval o) = (do Instr.mapUpdate t (.map (some (m l).1)) (a.eval k) (a.eval v); pure .skip) := by
    rcases ho with ho | ho <;> simp [execOp, ho, hxe]
  split at hs
  · rename_i i u hf
    simp only [Option.some.injEq, Prod.mk.injEq] at hs
    obtain ⟨rfl, rfl⟩ := hs
    obtain ⟨r', k1, k2⟩ := findKey_run hko hkv hf g2 w
    cases r' with
    | none => exact k2.elim
    | some q =>
      obtain ⟨j, u'⟩ := q
      obtain ⟨rfl, k2⟩ := k2
      obtain ⟨n, e, e1, e2, e3⟩ := findA_same hf
      obtain rfl : i = n := by omega
      obtain ⟨x', e4, e5⟩ := g2.get e2
      have hsb : Instr.sameBits 10000 x'.key (a.eval k) = true := eqK_same (by rw [eqK_symm]; exact e3) e5.key hkv 9999
      have e6 : ar[i]? = some x' := by simpa using e4
      refine ⟨m, undef, _, .inr ⟨?_, rfl⟩, h.turn (o := .map (es.modify i fun e => (rv s k, rv s v, e.2.2)) clk) (ob := .map (ar.modify i fun e => { e with key := a.eval k, val := a.eval v }) clk) hl (by simp) h0 (by simp) g1 (fun w' q1 q2 => ?_), .undef _⟩
      · rw [hexec]
        simp [Instr.mapUpdate, run_underlying hmt, run_getMap g1, hck, k1, Instr.keyThatStays, e6, hsb, run_setMap _ g1]
      · refine ⟨h0, _, q1, ?_⟩
        rw [Array.toList_modify]
        have hne : ∀ b, F b → w'.heap[b]? = w.heap[b]? := fun b hb => q2 b fun e => (h.heap.old l ⟨_, hl, by simp, h0⟩).2 (e ▸ hb)
        have hU : ∀ k', s.H k' ≠ none → upd s.H l (.map (es.modify i fun e => (rv s k, rv s v, e.2.2)) clk) k' ≠ none := fun k' hk => by unfold upd; split <;> simp [hk]
        exact (g2.modify hkv hvv i).keep (fun _ h => h) hne hU (fun _ _ => rfl)
  · rename_i hf
    simp only [Option.some.injEq, Prod.mk.injEq] at hs
    obtain ⟨rfl, rfl⟩ := hs
    obtain ⟨r', k1, k2⟩ := findKey_run hko hkv hf g2 w
    cases r' with
    | some q => exact k2.elim
    | none =>
      refine ⟨m, undef, _, .inr ⟨?_, rfl⟩, h.turn (o := .map (es ++ [(rv s k, rv s v, clk)]) (clk + 1)) (ob := .map (ar.push { key := a.eval k, val := a.eval v, born := clk }) (clk + 1)) hl (by simp) h0 (by simp) g1 (fun w' q1 q2 => ?_), .undef _⟩
      · rw [hexec]
        simp [Instr.mapUpdate, run_underlying hmt, run_getMap g1, hck, k1, run_setMap _ g1]
      · refine ⟨h0, _, q1, ?_⟩
        rw [Array.toList_push]
        have hne : ∀ b, F b → w'.heap[b]? = w.heap[b]? := fun b hb => q2 b fun e => (h.heap.old l ⟨_, hl, by simp, h0⟩).2 (e ▸ hb)
        have hU : ∀ k', s.H k' ≠ none → upd s.H l (.map (es ++ [(rv s k, rv s v, clk)]) (clk + 1)) k' ≠ none := fun k' hk => by unfold upd; split <;> simp [hk]
        exact (g2.append (.cons _ _ _ _ ⟨hkv, hvv, rfl⟩ .nil)).keep (fun _ h => h) hne hU (fun _ _ => rfl)
  · cases hs

def wRange (P : Program) (H : Heap) (nm : Loc) (t : TypeId) (x : FV) : Option (List (Loc × FO) × FV) := match mpT P t with
  | none => none
  | some _ => if (H nm).isNone then (match x with
    | .mp l => match H l with
      | some (.map _ clk) => some ([(nm, .iter x clk [] clk)], .ptr nm 0 0 0)
      | _ => none
    | .nilm => some ([(nm, .iter .nilm 0 [] 0)], .ptr nm 0 0 0)
    | _ => none) else none
theorem wRange_ok {nm : Loc} {t : TypeId} {x : Operand} {us : List (Loc × FO)} {v : FV} (hs : wRange P s.H nm t (rv s x) = some (us, v)) (ho : o.op = .range t x) : WOk P s o us v := by
  intro X F m a w h
  unfold wRange at hs
  split at hs
  · cases hs
  rename_i ke hmt
  obtain ⟨kt, et⟩ := ke
  have hmt := mpT_some hmt
  split at hs
  case isFalse => cases hs
  rename_i hc
  simp only [Option.isNone_iff_eq_none] at hc
  have hxv := rv_ok h x
  have key : ∀ (f : FV) (q : Option Nat) (since : Nat), RF w F (fun l => s.H l ≠ none) m f (.map q) → (Instr.range t (a.eval x)).run P w = .ok (.pointer (some ⟨w.heap.size, 0, none⟩)) (w.alloc (.mapIter q since #[] since)) →
      ∃ (m' : Loc → Nat × Nat) (u : Value) (w' : World), Ran P o a w u w' ∧ RelX X F m' { s with H := upds s.H [(nm, .iter f since [] since)] } a w' ∧ RF w' F (fun l => upds s.H [(nm, .iter f since [] since)] l ≠ none) m' (.ptr nm 0 0 0) u := by
    intro f q since hf hrun
    obtain ⟨g1, g2⟩ := MapKept.heap_alloc w (.mapIter q since #[] since)
    have hR := h.obj (l := nm) (n := 1) (ob := .mapIter q since #[] since) (o := .iter f since [] since) hc ⟨by simp, q, hf.keep (fun _ h => h) (fun b hb => g2 b (h.frz b hb)) (fun k hk => by unfold upd; split <;> simp [hk]) (fun k hk => by
      have : k ≠ nm := fun e => hk (e ▸ hc)
      simp [this]), by simpa using g1⟩
    refine ⟨_, .pointer (some ⟨w.heap.size, 0, none⟩), _, .inl (by simp [execOp, ho, hrun]), hR, ?_⟩
    have := RF.ptr (w := w.alloc (.mapIter q since #[] since)) (F := F) (U := fun k => upds s.H [(nm, .iter f since [] since)] k ≠ none) (m := fun k => if k = nm then (w.heap.size, 1) else m k) nm 0 0 0 (by simp [upds, upd])
    simpa using this
  split at hs
  · rename_i l hx
    split at hs
    case h_2 => cases hs
    rename_i es clk hl
    simp only [Option.some.injEq, Prod.mk.injEq] at hs
    obtain ⟨rfl, rfl⟩ := hs
    rw [hx] at hxv
    obtain ⟨h0, ar, g1, g2⟩ := h.heap.obj _ _ hl
    generalize hxe : a.eval x = vx at hxv
    cases hxv with
    | mp _ hul =>
    rw [hx]
    exact key _ _ clk (.mp l hul) (by rw [hxe]; simp [Instr.range, run_underlying hmt, run_getMap g1])
  · rename_i hx
    simp only [Option.some.injEq, Prod.mk.injEq] at hs
    obtain ⟨rfl, rfl⟩ := hs
    rw [hx] at hxv
    generalize hxe : a.eval x = vx at hxv
    cases hxv with
    | nilm => exact key _ _ 0 .nilm (by rw [hxe]; simp [Instr.range, run_underlying hmt])
  · cases hs

def wNext (H : Heap) (it : FV) (str : Bool) : Option (List (Loc × FO) × FV) := match it, str with
  | .ptr l 0 0 0, false => match H l with
    | some (.iter .nilm _ _ _) => some ([], .tup [.bool false])
    | some (.iter (.mp k) since seen last) => match H k with
      | some (.map es clk) => if !seen.isEmpty && !es.isEmpty && es.all (fun e => decide (last ≤ e.2.2)) then none else
          match es.filter fun e => !seen.contains e.2.2 with
          | [] => some ([], .tup [.bool false])
          | [e] => if e.2.2 < since then some ([(l, .iter (.mp k) since (seen ++ [e.2.2]) clk)], .tup [.bool true, e.1, e.2.1]) else none
          | _ => none
      | _ => none
    | _ => none
  | _, _ => none
theorem REs.filter {es : List (FV × FV × Nat)} {xs : List MapEntry} (h : REs w F U m es xs) (p : Nat → Bool) : REs w F U m (es.filter fun e => p e.2.2) (xs.filter fun e => p e.born) := by
  induction h with
  | nil => exact .nil
  | cons e x es xs h hs ih =>
    simp only [List.filter_cons, h.born]
    split
    · exact .cons _ _ _ _ h ih
    · exact ih
theorem REs.all {es : List (FV × FV × Nat)} {xs : List MapEntry} (h : REs w F U m es xs) (p : Nat → Bool) : (xs.all fun e => p e.born) = es.all fun e => p e.2.2 := by
  induction h with
  | nil => rfl
  | cons e x es xs h hs ih => simp only [List.all_cons, h.born, ih]
theorem REs.isEmpty {es : List (FV × FV × Nat)} {xs : List MapEntry} (h : REs w F U m es xs) : xs.isEmpty = es.isEmpty := by cases h <;> rfl
theorem wNext_ok {it : Operand} {str : Bool} {us : List (Loc × FO)} {v : FV} (hs : wNext s.H (rv s it) str = some (us, v)) (ho : o.op = .next it str) : WOk P s o us v := by
  intro X F m a w h
  unfold wNext at hs
  split at hs
  case h_2 => cases hs
  rename_i l hx
  have hxv := rv_ok h it
  rw [hx] at hxv
  generalize hxe : a.eval it = vx at hxv
  cases hxv
  have over : ∀ {us v}, some (([] : List (Loc × FO)), FV.tup [.bool false]) = some (us, v) → (Instr.next (a.eval it) false o.type).run P w = .ok (.tuple #[.bool false]) w →
      ∃ (m' : Loc → Nat × Nat) (u : Value) (w' : World), Ran P o a w u w' ∧ RelX X F m' { s with H := upds s.H us } a w' ∧ RF w' F (fun l => upds s.H us l ≠ none) m' v u := by
    intro us v hs hrun
    simp only [Option.some.injEq, Prod.mk.injEq] at hs
    obtain ⟨rfl, rfl⟩ := hs
    exact ⟨m, .tuple #[.bool false], w, .inl (by simp [execOp, ho, hrun]), h, by simpa using RF.tup _ _ (.cons _ _ _ _ (.bool false) .nil)⟩
  split at hs
  · rename_i since seen last hl
    obtain ⟨h0, q, g1, g2⟩ := h.heap.obj _ _ hl
    cases g1
    refine over hs ?_
    rw [hxe]
    simp [Instr.next, run_getIter g2]
  · rename_i k since seen last hl
    obtain ⟨h0, q, g1, g2⟩ := h.heap.obj _ _ hl
    cases g1 with
    | mp _ huk =>
    split at hs
    case h_2 => cases hs
    rename_i es clk hk
    obtain ⟨hk0, ar, k1, k2⟩ := h.heap.obj _ _ hk
    split at hs
    · cases hs
    rename_i hcond
    have e0 : (!seen.toArray.isEmpty && !ar.isEmpty && ar.all (fun e => decide (e.born ≥ last))) = false := by
      have e1 : ar.isEmpty = es.isEmpty := by rw [← k2.isEmpty]; simp
      have e2 : ar.all (fun e => decide (e.born ≥ last)) = es.all (fun e => decide (last ≤ e.2.2)) := by
        rw [← k2.all (fun b => decide (last ≤ b)), Array.all_toList]
      rw [e1, e2]
      simpa using hcond
    have e3 : (ar.filter fun e => !seen.toArray.contains e.born).toList = ar.toList.filter fun e => !seen.contains e.born := by
      rw [Array.toList_filter]
      simp
    have k3 := k2.filter (fun b => !seen.contains b)
    rw [← e3] at k3
    generalize hleft : (ar.filter fun e => !seen.toArray.contains e.born) = left at k3
    split at hs
    · rename_i hf
      rw [hf] at k3
      have hl0 : left = #[] := by
        apply Array.ext'
        cases hq : left.toList with
        | nil => rfl
        | cons _ _ => rw [hq] at k3; cases k3
      refine over hs ?_
      rw [hxe]
      simp only [Instr.next, Nat.zero_mul, Nat.add_zero, Sem.run_bind, run_getIter g2, Result.andThen_ok, run_getMap k1, e0, hleft, hl0]
      simp [Question.forced]
    · rename_i e hf
      rw [hf] at k3
      obtain ⟨x, hxl, hre⟩ : ∃ x, left.toList = [x] ∧ RE w F (fun l => s.H l ≠ none) m e x := by
        cases hq : left.toList with
        | nil => rw [hq] at k3; cases k3
        | cons x xs => rw [hq] at k3; cases k3 with
          | cons _ _ _ _ p q => cases q; exact ⟨x, rfl, p⟩
      have hl1 : left = #[x] := by apply Array.ext'; rw [hxl]
      split at hs
      case isFalse => cases hs
      rename_i hborn
      simp only [Option.some.injEq, Prod.mk.injEq] at hs
      obtain ⟨rfl, rfl⟩ := hs
      have hb : x.born < since := by rw [hre.born]; exact hborn
      have hb' : ¬ since ≤ x.born := by omega
      have hT := h.turn (o := .iter (.mp k) since (seen ++ [e.2.2]) clk) (ob := .mapIter (some (m k).1) since (seen.toArray.push x.born) clk) hl (by simp) h0 (by simp) g2 (fun w' q1 q2 => by
        have hne : ∀ b, F b → w'.heap[b]? = w.heap[b]? := fun b hb => q2 b fun e => (h.heap.old l ⟨_, hl, by simp, h0⟩).2 (e ▸ hb)
        refine ⟨h0, some (m k).1, .mp k (by unfold upd; split <;> simp [huk]), ?_⟩
        rw [q1, ← hre.born]
        simp)
      have hrun : (Instr.next (.pointer (some ⟨(m l).1, 0, none⟩)) false o.type).run P w = .ok (.tuple #[.bool true, x.key, x.val]) { w with heap := w.heap.setIfInBounds (m l).1 (.mapIter (some (m k).1) since (seen.toArray.push x.born) clk) } := by
        simp only [Instr.next, Sem.run_bind, run_getIter g2, Result.andThen_ok, run_getMap k1, e0, hleft, hl1]
        simp [Question.forced, hb, hb', run_setIter _ g2]
      refine ⟨m, .tuple #[.bool true, x.key, x.val], _, .inl (by simp only [execOp, ho, hxe]; simp only [Nat.zero_mul, Nat.add_zero, Sem.run_bind, hrun]; rfl), hT, ?_⟩
      have hT' := hT
      have hbl := fun b (hb : F b) => (MapKept.heap_set (o' := .mapIter (some (m k).1) since (seen.toArray.push x.born) clk) g2).2 b fun e => (h.heap.old l ⟨_, hl, by simp, h0⟩).2 (e ▸ hb)
      have hU : ∀ k', s.H k' ≠ none → upds s.H [(l, .iter (.mp k) since (seen ++ [e.2.2]) clk)] k' ≠ none := fun k' hk' => upds_ne _ hk'
      have := RFs.cons _ _ _ _ (RF.bool (w := { w with heap := w.heap.setIfInBounds (m l).1 (.mapIter (some (m k).1) since (seen.toArray.push x.born) clk) }) (F := F) (U := fun k' => upds s.H [(l, .iter (.mp k) since (seen ++ [e.2.2]) clk)] k' ≠ none) (m := m) true)
        (.cons _ _ _ _ (hre.key.keep (fun _ h => h) hbl hU (fun _ _ => rfl)) (.cons _ _ _ _ (hre.val.keep (fun _ h => h) hbl hU (fun _ _ => rfl)) .nil))
      simpa using RF.tup _ _ this
    · cases hs
  · cases hs
end
end Go.FM
namespace Go.FM
open Go

section
variable {P : Program} {X : Ctx} {c : Cfg} {w w' : World} {F F' : Nat → Prop} {U : Loc → Prop} {m m' : Loc → Nat × Nat} {s s' : FS} {a a' : Act} {o : Oper} {H : Heap}

/-! ### append -/
/-- what the second argument of an append yields -/
def srcA (H : Heap) (sz : Nat) : FV → Option (List (List FV))
  | .list sz' xs => if sz' = sz then some xs else none
  | .nils => some []
  | .emp => some []
  | .sl l sz' off len => match H l with
    | some (.cells _ sz'' xs) => if decide (sz' = sz) && (decide (sz'' = sz) && decide (off + len ≤ xs.length)) then some ((xs.drop off).take len) else none
    | _ => none
  | _ => none
theorem drop_flatten' {α : Type} {sz : Nat} : ∀ (n : Nat) (xs : List (List α)), (∀ x ∈ xs, x.length = sz) → (xs.drop n).flatten = xs.flatten.drop (n * sz)
  | 0, xs, _ => by simp
  | n + 1, [], _ => by simp
  | n + 1, y :: ys, hl => by
    have hy := hl y (by simp)
    rw [List.drop_succ_cons, drop_flatten' n ys (fun x hx => hl x (by simp [hx])), List.flatten_cons, Nat.add_mul, Nat.one_mul, Nat.add_comm, ← List.drop_drop]
    rw [show (y ++ ys.flatten).drop sz = ys.flatten by rw [← hy]; simp]
theorem take_flatten' {α : Type} {sz : Nat} : ∀ (n : Nat) (xs : List (List α)), (∀ x ∈ xs, x.length = sz) → (xs.take n).flatten = xs.flatten.take (n * sz)
  | 0, xs, _ => by simp
  | n + 1, [], _ => by simp
  | n + 1, y :: ys, hl => by
    have hy := hl y (by simp)
    rw [List.take_succ_cons, List.flatten_cons, take_flatten' n ys (fun x hx => hl x (by simp [hx])), List.flatten_cons, Nat.add_mul, Nat.one_mul, Nat.add_comm, ← hy, List.take_length_add_append]
theorem srcA_ok (h : HeapR w F m H) {tx e' : TypeId} (hk : P.underlying tx = some (.slice e')) {sz : Nat} {x : FV} {v : Value} {rows : List (List FV)} (hs : srcA H sz x = some rows) (hc : rows.flatten.all FV.cellV = true) (hx : RF w F (fun l => H l ≠ none) m x v) :
    (∀ r ∈ rows, r.length = sz) ∧ ∃ news, Src P sz tx v rows.length news w ∧ RFs w F (fun l => H l ≠ none) m rows.flatten news := by
  unfold srcA at hs
  split at hs
  · rename_i sz1 xs
    split at hs
    case isFalse => cases hs
    rename_i he
    obtain rfl : xs = rows := Option.some.inj hs
    cases hx with
    | list _ _ A cap vs hl hcap hm hvs =>
    rw [he] at hl
    have hlen : vs.length = xs.length * sz := by rw [← hvs.length]; exact flat_length _ xs hl
    refine ⟨hl, vs, ?_, hvs⟩
    cases hr : xs with
    | nil =>
      subst hr
      have : vs = [] := List.eq_nil_of_length_eq_zero (by simpa using hlen)
      subst this
      cases A with
      | none => exact Src.ofNil w hk cap
      | some a => exact Src.ofSlice w hk a 0 cap [] (by simp) (by simp) (by simp)
    | cons r rs =>
      obtain ⟨a, rfl, hF, hcell⟩ := hm (by rw [hr]; simp)
      rw [← hr]
      exact Src.ofSlice w hk a xs.length cap vs hlen hcell (hvs.one hc)
  · obtain rfl := Option.some.inj hs
    cases hx
    exact ⟨by simp, [], Src.ofNil w hk 0, .nil⟩
  · obtain rfl := Option.some.inj hs
    cases hx with
    | emp A =>
    refine ⟨by simp, [], ?_, .nil⟩
    cases A with
    | none => exact Src.ofNil w hk 0
    | some a => exact Src.ofSlice w hk a 0 0 [] (by simp) (by simp) (by simp)
  · rename_i l sz' off len
    split at hs
    case h_2 => cases hs
    rename_i T sz'' xs hl
    split at hs
    case isFalse => cases hs
    rename_i hcond
    simp only [Bool.and_eq_true, decide_eq_true_eq] at hcond
    obtain ⟨e1, e2, hle⟩ := hcond
    rw [e1] at hx
    rw [e2] at hl
    clear e1 e2
    obtain rfl := Option.some.inj hs
    have hrl : ((xs.drop off).take len).length = len := by simp; omega
    rcases h.obj _ _ hl with ⟨rfl, h00⟩ | ⟨h0, cur, g1, g2, g3, g4, g5⟩
    · have hl0 : len = 0 := by simp at hle; omega
      subst hl0
      refine ⟨by simp, [], ?_, by simpa using RFs.nil⟩
      rw [hrl]
      cases hx with
      | sl _ _ _ _ cap o hu hcap ho hs => exact Src.ofSlice w hk _ 0 cap [] (by simp) (by simp) (by simp)
      | sl0 _ _ _ A =>
        cases A with
        | none => exact Src.ofNil w hk 0
        | some a => exact Src.ofSlice w hk a 0 0 [] (by simp) (by simp) (by simp)
    · have hall : ∀ r ∈ (xs.drop off).take len, r.length = sz := fun x hx => g3 x (List.mem_of_mem_drop (List.mem_of_mem_take hx))
      have hpart := (g5.drop (off * sz)).take (len * sz)
      rw [← drop_flatten' off xs g3, ← take_flatten' len _ (fun x hx => g3 x (List.mem_of_mem_drop hx))] at hpart
      refine ⟨hall, _, ?_, hpart⟩
      rw [hrl]
      have hvl : (((cur.toList.take (xs.length * sz)).drop (off * sz)).take (len * sz)).length = len * sz := by
        rw [← hpart.length, flat_length sz _ hall, hrl]
      cases hx with
      | sl _ _ _ _ cap o hu hcap ho hs =>
        refine Src.ofSlice w hk _ len cap _ hvl (fun j u hj => ?_) (hpart.one hc)
        have hpos : 0 < len := by
          rcases Nat.eq_zero_or_pos len with e | e
          · subst e; simp at hj
          · exact e
        have ho' : o = off * sz := ho.resolve_left (by omega)
        rw [List.getElem?_take] at hj
        split at hj
        · rw [List.getElem?_drop, List.getElem?_take] at hj
          split at hj
          · rw [add0, cell_blk g1, ho']; simpa using hj
          · cases hj
        · cases hj
      | sl0 _ _ _ _ hu h00 => exact absurd h00 h0
  · cases hs

/-- rows are put behind the first 'len' ones -/
theorem RelX.extend (h : RelX X F m s a w) {l : Loc} {T : TypeId} {sz len : Nat} {xs rows : List (List FV)} {vs : List Value} (hl : s.H l = some (.cells T sz xs)) (h0 : (m l).2 ≠ 0) (hle : len ≤ xs.length) (hfit : (len + rows.length) * sz ≤ (m l).2)
    (hrow : ∀ r ∈ rows, r.length = sz) (hv : RFs w F (fun k => s.H k ≠ none) m rows.flatten vs) (h1 : ∀ v ∈ vs, v.oneCell' = true) :
    ∃ w', (storeCells ⟨(m l).1, len * sz, none⟩ vs).run P w = .ok () w' ∧ RelX X F m { s with H := upd s.H l (.cells T sz (xs.take len ++ rows)) } a w' := by
  have hvl : vs.length = rows.length * sz := by rw [← hv.length]; exact flat_length sz rows hrow
  rcases h.heap.obj l _ hl with ⟨_, h00⟩ | ⟨_, cur, g1, g2, g3, g4, g5⟩
  · exact absurd h00 h0
  have hmul : len * sz ≤ xs.length * sz := Nat.mul_le_mul_right _ hle
  rw [Nat.add_mul] at hfit
  have hst := run_storeCells_at P (m l).1 (len * sz) T vs 0 cur w g1 (by omega) h1
  simp only [Nat.add_zero] at hst
  refine ⟨_, hst, ?_⟩
  have hlive : Live s.H m l := ⟨_, hl, by simp, h0⟩
  have hU : ∀ k, s.H k ≠ none → upd s.H l (.cells T sz (xs.take len ++ rows)) k ≠ none := fun k hk => by unfold upd; split <;> simp [hk]
  have hFne : ∀ b, F b → (w.setRow (m l).1 (cur.toList.take (len * sz) ++ vs ++ cur.toList.drop (len * sz + vs.length)).toArray).heap[b]? = w.heap[b]? := fun b hb =>
    setRow_other w _ b _ (fun e => (h.heap.old l hlive).2 (e ▸ hb))
  refine h.write hl hlive (by simp) (by simp [World.setRow]) (fun b _ hb => setRow_other w _ b _ hb) rfl rfl rfl (.inr ⟨h0, _, setRow_heap w _ cur _ T _ g1, ?_, ?_, ?_, ?_⟩)
  · simp; omega
  · intro x hx
    rcases List.mem_append.1 hx with hx | hx
    · exact g3 x (List.mem_of_mem_take hx)
    · exact hrow x hx
  · simp only [List.length_append, List.length_take, Nat.min_eq_left hle, Nat.add_mul, List.size_toArray, List.length_drop, Array.length_toList]
    omega
  · rw [List.flatten_append, take_flatten' len xs g3]
    have e3 : ((cur.toList.take (len * sz) ++ vs ++ cur.toList.drop (len * sz + vs.length)).toArray.toList.take ((xs.take len ++ rows).length * sz)) = (cur.toList.take (xs.length * sz)).take (len * sz) ++ vs := by
      rw [List.toList_toArray, List.take_take, Nat.min_eq_left hmul]
      have e4 : (xs.take len ++ rows).length * sz = (cur.toList.take (len * sz) ++ vs).length := by
        simp only [List.length_append, List.length_take, Nat.min_eq_left hle, Nat.add_mul, Array.length_toList]
        omega
      rw [e4, List.take_left']
      rfl
    rw [e3]
    exact ((g5.keep (F' := F) (fun _ h => h) hFne hU (fun _ _ => rfl) (m' := m)).take _).append (hv.keep (fun _ h => h) hFne hU (fun _ _ => rfl))

def wApp (P : Program) (H : Heap) (nm : Loc) (t tx : TypeId) (x y : FV) : Option (List (Loc × FO) × FV) := match slT P t, slT P tx with
  | some (e, sz), some _ => match byT P e, zeroC P e with
    | some by_, some z => if decide (z.length = sz) && decide (0 < sz) then (match srcA H sz y with
      | some rows => if rows.flatten.all FV.cellV then (match x with
        | .nils => if rows.isEmpty then some ([], .nils) else if decide ((rows.length + rows.length / 4 + 192) * by_ ≤ 140737488355328) && (decide (rows.length ≤ 4611686018427387904) && (H nm).isNone) then some ([(nm, .cells e sz rows)], .sl nm sz 0 rows.length) else none
        | .emp => if decide ((rows.length + rows.length / 4 + 192) * by_ ≤ 140737488355328) && (decide (rows.length ≤ 4611686018427387904) && (H nm).isNone) then some ([(nm, .cells e sz rows)], .sl nm sz 0 rows.length) else none
        | .sl l sz' 0 len => match H l with
          | some (.cells T sz'' xs) => if (decide (sz' = sz) && decide (sz'' = sz)) && (decide (T = e) && (decide (len ≤ xs.length) && (decide ((len + rows.length + (len + rows.length) / 4 + 192) * by_ ≤ 140737488355328) && (decide (len + rows.length ≤ 4611686018427387904) && (H nm).isNone)))) then
              some ([(l, .dead), (nm, .cells e sz (xs.take len ++ rows))], .sl nm sz 0 (len + rows.length)) else none
          | _ => none
        | _ => none) else none
      | none => none) else none
    | _, _ => none
  | _, _ => none
theorem RelX.drew (h : RelX X F m s a w) : RelX X F m s a w.drew := h.world (Nat.le_refl _) (fun _ _ => rfl) rfl rfl rfl
theorem RF.drewn {x : FV} {v : Value} (h : RF w F U m x v) : RF w.drew F U m x v := h.keep (fun _ h => h) (fun _ _ => rfl) (fun _ h => h) (fun _ _ => rfl)
theorem RFs.drewn {x : List FV} {v : List Value} (h : RFs w F U m x v) : RFs w.drew F U m x v := h.keep (fun _ h => h) (fun _ _ => rfl) (fun _ h => h) (fun _ _ => rfl)
/-- append that takes a new row -/
theorem app_grow (h : RelX X F m s a w) {t tx ty e : TypeId} {i : TypeInfo} {z : List FV} {nm : Loc} {sz len cap : Nat} {base : Option Addr} {olds news : List Value} {orows rows : List (List FV)} {y : Value} (hu : P.underlying t = some (.slice e)) (hi : P.info? e = some i) (hsz : i.size = sz)
    (hzc : zeroC P e = some z) (hzsz : z.length = sz) (h0 : 0 < sz) (hnm : s.H nm = none) (hold : (Builtin.firstCells i.size len (.slice base len cap)).run P w.drew = .ok olds.toArray w.drew) (hsrc : Src P i.size tx y rows.length news w) (hg : cap < len + rows.length) (hol : orows.length = len)
    (h62 : len + rows.length ≤ 4611686018427387904) (hb : (len + rows.length + (len + rows.length) / 4 + 192) * i.bytes ≤ 140737488355328) (hr : RFs w F (fun k => s.H k ≠ none) m (orows ++ rows).flatten (olds ++ news)) (hrow : ∀ r ∈ orows ++ rows, r.length = sz) :
    ∃ m' cap' w', (Builtin.append_ #[t, tx] ty #[.slice base len cap, y]).run P w = .ok (.slice (some ⟨w.heap.size, 0, none⟩) (len + rows.length) cap') w' ∧ RelX X F m' { s with H := upd s.H nm (.cells e sz (orows ++ rows)) } a w' ∧
      RF w' F (fun k => upd s.H nm (.cells e sz (orows ++ rows)) k ≠ none) m' (.sl nm sz 0 (len + rows.length)) (.slice (some ⟨w.heap.size, 0, none⟩) (len + rows.length) cap') := by
  obtain ⟨zi, hzz⟩ : ∃ zi, i.zero = some zi := by
    unfold zeroC at hzc
    rw [hi] at hzc
    simp only at hzc
    split at hzc
    · rename_i zi hzi; exact ⟨zi, hzi⟩
    · cases hzc
  have hzl : z.length = zi.cells.size := by
    unfold zeroC at hzc
    rw [hi] at hzc
    simp only [hzz, Option.some.injEq] at hzc
    rw [← hzc]; simp
  have hb2 : (len + rows.length) * i.bytes ≤ (len + rows.length + (len + rows.length) / 4 + 192) * i.bytes := Nat.mul_le_mul_right _ (by omega)
  have hrun := run_append_grow_src (P := P) w t tx ty e i zi hu hi hzz base len cap olds hold y rows.length news hsrc hg (by omega) (growslice_fits hg (by omega))
  have hge := grownCap_ge w (len + rows.length) cap e
  have hfl : (olds ++ news).length = (len + rows.length) * sz := by rw [← hr.length, flat_length sz _ hrow]; simp [hol]
  have hpos : 0 < len + rows.length := by omega
  have hcs : ((olds ++ news).toArray ++ Builtin.zeroCells zi.cells (grownCap w (len + rows.length) cap e - (len + rows.length))).size = (len + rows.length) * sz + (grownCap w (len + rows.length) cap e - (len + rows.length)) * zi.cells.size := by
    rw [Array.size_append, size_zeroCells, List.size_toArray, hfl]
  have hmulpos : 0 < (len + rows.length) * sz := Nat.mul_pos hpos h0
  have hal := h.drew.alloc (l := nm) (cells := (olds ++ news).toArray ++ Builtin.zeroCells zi.cells (grownCap w (len + rows.length) cap e - (len + rows.length))) (T := e) (rows := orows ++ rows) (sz := sz) hnm (by
    rw [Array.toList_append, List.toList_toArray, List.length_append, hol, ← hfl, List.take_left']
    · exact hr.drewn
    · rfl) hrow (by rw [hcs, List.length_append, hol]; omega) (by omega)
  refine ⟨_, _, _, hrun, hal, ?_⟩
  have := RF.sl (w := w.drew.alloc (.cells ((olds ++ news).toArray ++ Builtin.zeroCells zi.cells (grownCap w (len + rows.length) cap e - (len + rows.length))) e (0, 0))) (F := F) (U := fun k => upd s.H nm (.cells e sz (orows ++ rows)) k ≠ none)
    (m := fun k => if k = nm then (w.drew.heap.size, ((olds ++ news).toArray ++ Builtin.zeroCells zi.cells (grownCap w (len + rows.length) cap e - (len + rows.length))).size) else m k) nm sz 0 (len + rows.length) (grownCap w (len + rows.length) cap e) 0 (by simp [upd]) hge (.inr (by simp)) (by
      simp only [if_true, hcs, Nat.zero_add, ← hzl, hzsz, ← Nat.add_mul]
      exact Nat.mul_le_mul_right _ (by omega))
  simpa using this

theorem first_none (size c : Nat) (A : Option Addr) (w' : World) : (Builtin.firstCells size 0 (.slice A 0 c)).run P w' = .ok #[] w' := by
  cases A with
  | none => simp [Builtin.firstCells]
  | some a => exact run_firstCells_some w' size 0 a 0 c [] (by simp) (by simp)
theorem upd_upd_ne {H : Heap} {l l' : Loc} {o o' : FO} (h : l ≠ l') : upd (upd H l o) l' o' = upd (upd H l' o') l o := by
  funext k
  unfold upd
  by_cases e1 : k = l' <;> by_cases e2 : k = l
  · exact absurd (e2.symm.trans e1) h
  · simp [e1, e2]
    intro e; exact absurd e.symm h
  · simp [e1, e2]
    intro e; exact absurd e h
  · simp [e1, e2]
theorem upd_self {H : Heap} {l : Loc} {o : FO} (h : H l = some o) : upd H l o = H := by
  funext k
  unfold upd
  split
  · rename_i e; rw [e, h]
  · rfl
theorem RelX.cut (h : RelX X F m s a w) {l : Loc} {T : TypeId} {sz len : Nat} {xs : List (List FV)} (hl : s.H l = some (.cells T sz xs)) (hle : len ≤ xs.length) : RelX X F m { s with H := upd s.H l (.cells T sz (xs.take len)) } a w := by
  by_cases h0 : (m l).2 = 0
  · rcases h.heap.obj l _ hl with ⟨rfl, _⟩ | ⟨h1, _⟩
    · rw [List.take_nil, upd_self hl]; exact h
    · exact absurd h0 h1
  · have hfit : (len + ([] : List (List FV)).length) * sz ≤ (m l).2 := by
      rcases h.heap.obj l _ hl with ⟨_, h00⟩ | ⟨_, cur, _, g2, _, g4, _⟩
      · exact absurd h00 h0
      · rw [← g2]
        exact Nat.le_trans (Nat.mul_le_mul_right _ (by simpa using hle)) g4
    obtain ⟨w', g1, g2⟩ := h.extend (P := default) (rows := []) (vs := []) hl h0 hle hfit (by simp) .nil (by simp)
    have : w' = w := by
      simp only [storeCells, Sem.run_pure, Result.ok.injEq, true_and] at g1
      exact g1.symm
    subst this
    simpa using g2
theorem wApp_ok {nm : Loc} {t tx : TypeId} {x y : Operand} {us : List (Loc × FO)} {v : FV} (hs : wApp P s.H nm t tx (rv s x) (rv s y) = some (us, v)) (ho : o.op = .call { callee := .builtin .append, args := ⟨[x, y]⟩, argTypes := ⟨[t, tx]⟩ }) : WOk P s o us v := by
  intro X F m a w h
  unfold wApp at hs
  split at hs
  case h_2 => cases hs
  rename_i e sz ex ht htx
  obtain ⟨e2, sz2⟩ := ex
  obtain ⟨hu, hz⟩ := slT_some ht
  obtain ⟨hux, _⟩ := slT_some htx
  split at hs
  case h_2 => cases hs
  rename_i by_ z hby hzc
  obtain ⟨i, hi, rfl⟩ := byT_some hby
  have hisz := szT_info hz hi
  split at hs
  case isFalse => cases hs
  rename_i hc
  simp only [Bool.and_eq_true, decide_eq_true_eq] at hc
  obtain ⟨hzsz, h0⟩ := hc
  split at hs
  case h_2 => cases hs
  rename_i rows hrows
  split at hs
  case isFalse => cases hs
  rename_i hcell
  obtain ⟨hrl, news, hsrc, hnews⟩ := srcA_ok h.heap hux hrows hcell (rv_ok h y)
  have hxv := rv_ok h x
  have hexec : ∀ u w', (Builtin.append_ #[t, tx] o.type #[a.eval x, a.eval y]).run P w = .ok u w' → Ran P o a w u w' := fun u w' hr => .inl (by simp [execOp, ho, resolve, invoke, builtin, hr])
  have hsrc' : Src P i.size tx (a.eval y) rows.length news w := by rw [hisz]; exact hsrc
  have nothing : ∀ {A : Option Addr} {len cap : Nat}, len ≤ cap → rows.length = 0 → (Builtin.append_ #[t, tx] o.type #[.slice A len cap, a.eval y]).run P w = .ok (.slice A len cap) w := fun {A len cap} hle hr0 => by
    have hn0 : news = [] := by
      have hr : rows = [] := List.eq_nil_of_length_eq_zero hr0
      rw [hr] at hnews
      cases hnews; rfl
    rw [hr0, hn0] at hsrc'
    exact run_append_nothing w t tx o.type e i hu hi A len cap hle _ hsrc'
  have fresh : s.H nm = none → ∀ {A : Option Addr}, a.eval x = .slice A 0 0 → rows.length ≠ 0 → (rows.length + rows.length / 4 + 192) * i.bytes ≤ 140737488355328 → rows.length ≤ 4611686018427387904 →
      ∃ (m' : Loc → Nat × Nat) (u : Value) (w' : World), Ran P o a w u w' ∧ RelX X F m' { s with H := upds s.H [(nm, .cells e sz rows)] } a w' ∧ RF w' F (fun l => upds s.H [(nm, .cells e sz rows)] l ≠ none) m' (.sl nm sz 0 rows.length) u := by
    intro hnm A hA hne hb h62
    obtain ⟨m', cap', w', g1, g2, g3⟩ := app_grow (base := A) (len := 0) (cap := 0) (olds := []) (orows := []) (ty := o.type) h hu hi hisz hzc hzsz h0 hnm (first_none _ _ _ _) hsrc' (by omega) rfl (by simpa using h62) (by simpa using hb) (by simpa using hnews) (by simpa using hrl)
    simp only [List.nil_append, Nat.zero_add] at g1 g2 g3
    exact ⟨m', _, w', hexec _ _ (by rw [hA]; exact g1), g2, g3⟩
  split at hs
  · rename_i hx
    rw [hx] at hxv
    generalize hxe : a.eval x = vx at hxv
    cases hxv
    split at hs
    · rename_i hr
      simp only [Option.some.injEq, Prod.mk.injEq] at hs
      obtain ⟨rfl, rfl⟩ := hs
      exact ⟨m, _, w, hexec _ _ (by rw [hxe]; exact nothing (Nat.le_refl _) (by simpa using hr)), h, .nils⟩
    · rename_i hr
      split at hs
      case isFalse => cases hs
      rename_i hb
      simp only [Bool.and_eq_true, decide_eq_true_eq, Option.isNone_iff_eq_none] at hb
      simp only [Option.some.injEq, Prod.mk.injEq] at hs
      obtain ⟨rfl, rfl⟩ := hs
      exact fresh hb.2.2 hxe (by simpa using hr) hb.1 hb.2.1
  · rename_i hx
    rw [hx] at hxv
    generalize hxe : a.eval x = vx at hxv
    cases hxv with
    | emp A =>
    split at hs
    case isFalse => cases hs
    rename_i hb
    simp only [Bool.and_eq_true, decide_eq_true_eq, Option.isNone_iff_eq_none] at hb
    simp only [Option.some.injEq, Prod.mk.injEq] at hs
    obtain ⟨rfl, rfl⟩ := hs
    by_cases hr : rows.length = 0
    · have hrn : rows = [] := List.eq_nil_of_length_eq_zero hr
      subst hrn
      exact ⟨_, _, w, hexec _ _ (by rw [hxe]; exact nothing (Nat.le_refl _) hr), h.ghost0 (T := e) (sz := sz) hb.2.2, .sl0 nm sz 0 A (by simp [upds, upd]) (by simp)⟩
    · exact fresh hb.2.2 hxe hr hb.1 hb.2.1
  · rename_i l sz' len hx
    split at hs
    case h_2 => cases hs
    rename_i T sz'' xs hl
    split at hs
    case isFalse => cases hs
    rename_i hc
    simp only [Bool.and_eq_true, decide_eq_true_eq, Option.isNone_iff_eq_none] at hc
    obtain ⟨⟨e1, e2⟩, e3, hle, hb, h62, hnm⟩ := hc
    simp only [Option.some.injEq, Prod.mk.injEq] at hs
    obtain ⟨rfl, rfl⟩ := hs
    rw [hx, e1] at hxv
    rw [e2, e3] at hl
    clear e1 e2 e3
    have hll : l ≠ nm := fun e => by rw [e, hnm] at hl; cases hl
    have hH : ∀ q q', upds s.H [(l, .dead), (nm, .cells e sz q)] = upd (upd (upd s.H l q') l .dead) nm (.cells e sz q) := fun q q' => by
      simp only [upds, List.foldl_cons, List.foldl_nil]
      congr 1
      funext k
      unfold upd
      split <;> rfl
    have still : ∀ {A : Option Addr} {cap : Nat}, rows = [] → a.eval x = .slice A len cap → len ≤ cap → Ran P o a w (.slice A len cap) w ∧ RelX X F (fun k => if k = nm then m l else m k) { s with H := upds s.H [(l, .dead), (nm, .cells e sz (xs.take len ++ []))] } a w := by
      intro A cap hr hA hle'
      refine ⟨hexec _ _ (by rw [hA]; exact nothing hle' (by rw [hr]; rfl)), ?_⟩
      rw [hH _ (.cells e sz (xs.take len)), List.append_nil]
      exact (h.cut hl hle).rename (l := l) (l' := nm) (T := e) (sz := sz) (xs := xs.take len) (by simp [upd]) (by simp [upd, hnm]; intro e; exact absurd e.symm hll)
    have growO : ∀ {A : Option Addr} {cap : Nat} {olds : List Value}, a.eval x = .slice A len cap → cap < len + rows.length → (Builtin.firstCells i.size len (.slice A len cap)).run P w.drew = .ok olds.toArray w.drew → RFs w F (fun k => s.H k ≠ none) m (xs.take len).flatten olds →
        (∀ r ∈ xs.take len, r.length = sz) →
        ∃ (m' : Loc → Nat × Nat) (u : Value) (w' : World), Ran P o a w u w' ∧ RelX X F m' { s with H := upds s.H [(l, .dead), (nm, .cells e sz (xs.take len ++ rows))] } a w' ∧ RF w' F (fun k => upds s.H [(l, .dead), (nm, .cells e sz (xs.take len ++ rows))] k ≠ none) m' (.sl nm sz 0 (len + rows.length)) u := by
      intro A cap olds hA hg hold hor horl
      obtain ⟨m', cap', w', g1, g2, g3⟩ := app_grow (base := A) (orows := xs.take len) (ty := o.type) h hu hi hisz hzc hzsz h0 hnm hold hsrc' hg (by simp; omega) h62 (by omega) (by rw [List.flatten_append]; exact hor.append hnews) (fun r hr => by
        rcases List.mem_append.1 hr with hr | hr
        · exact horl r hr
        · exact hrl r hr)
      have hcomm : upds s.H [(l, .dead), (nm, .cells e sz (xs.take len ++ rows))] = upd (upd s.H nm (.cells e sz (xs.take len ++ rows))) l .dead := upd_upd_ne hll
      refine ⟨m', _, w', hexec _ _ (by rw [hA]; exact g1), g2.weaken ⟨rfl, fun t => .inr rfl, fun k => ?_⟩, g3.keep (fun _ h => h) (fun _ _ => rfl) (fun k hk => ?_) (fun _ _ => rfl)⟩
      · show upds s.H _ k = _ ∨ upds s.H _ k = _
        rw [hcomm]
        by_cases e : k = l
        · right; simp [upd, e]
        · left; simp [upd, e]
      · rw [hcomm]
        unfold upd at hk ⊢
        split
        · simp
        · exact hk
    generalize hxe : a.eval x = vx at hxv
    cases hxv with
    | sl _ _ _ _ cap o' hul hcap hoff hfit =>
      by_cases hr0 : rows.length = 0
      · have hrn : rows = [] := List.eq_nil_of_length_eq_zero hr0
        subst hrn
        obtain ⟨g1, g2⟩ := still rfl hxe hcap
        refine ⟨_, _, w, g1, g2, ?_⟩
        have := RF.sl (w := w) (F := F) (U := fun k => upds s.H [(l, .dead), (nm, .cells e sz (xs.take len ++ []))] k ≠ none) (m := fun k => if k = nm then m l else m k) nm sz 0 len cap o' (by simp [upds, upd]) hcap hoff (by simpa using hfit)
        simpa using this
      by_cases hroom : len + rows.length ≤ cap
      · have hcap0 : ¬ cap = 0 := by omega
        have hoff' : o' = 0 := by have := hoff.resolve_left hcap0; simpa using this
        subst hoff'
        have hm0 : (m l).2 ≠ 0 := by
          intro hz
          rw [hz] at hfit
          have : 0 < (0 + cap) * sz := Nat.mul_pos (by omega) h0
          omega
        obtain ⟨w', g1, g2⟩ := h.extend (P := P) (len := len) hl hm0 hle (by
          refine Nat.le_trans (Nat.mul_le_mul_right _ hroom) ?_
          simpa using hfit) hrl hnews hsrc.one
        have hrun : (Builtin.append_ #[t, tx] o.type #[.slice (some ⟨(m l).1, 0, none⟩) len cap, a.eval y]).run P w = .ok (.slice (some ⟨(m l).1, 0, none⟩) (len + rows.length) cap) w' := by
          have g1' := g1
          rw [← hisz] at g1'
          rcases hsrc'.kind with ⟨e', hk⟩ | hk <;> simp [Builtin.append_, run_underlying hu, run_underlying hk, sizeOf, typeInfo, hi, hsrc'.len, hroom, hsrc'.cells, Addr.add_lit, g1']
        have hR := g2.rename (l := l) (l' := nm) (T := e) (sz := sz) (xs := xs.take len ++ rows) (by simp [upd]) (by simp [upd, hnm]; intro e; exact absurd e.symm hll)
        refine ⟨fun k => if k = nm then m l else m k, _, w', hexec _ _ (by rw [hxe]; exact hrun), ?_, ?_⟩
        · rw [hH _ (.cells e sz (xs.take len ++ rows))]
          exact hR
        · have := RF.sl (w := w') (F := F) (U := fun k => upds s.H [(l, .dead), (nm, .cells e sz (xs.take len ++ rows))] k ≠ none) (m := fun k => if k = nm then m l else m k) nm sz 0 (len + rows.length) cap 0 (by simp [upds, upd]) hroom (.inr (by simp)) (by simpa using hfit)
          simpa using this
      · by_cases hl0 : len = 0
        · subst hl0
          exact growO (olds := []) hxe (Nat.lt_of_not_le hroom) (first_none _ _ _ _) (by simpa using RFs.nil) (by simp)
        · have hoff' : o' = 0 := by have := hoff.resolve_left (by omega); simpa using this
          have hm0 : (m l).2 ≠ 0 := by
            intro hz
            rw [hz] at hfit
            have : 0 < (0 + cap) * sz := Nat.mul_pos (by omega) h0
            omega
          rcases h.heap.obj l _ hl with ⟨_, h00⟩ | ⟨_, cur, q1, q2, q3, q4, q5⟩
          · exact absurd h00 hm0
          have hmul : len * sz ≤ xs.length * sz := Nat.mul_le_mul_right _ hle
          refine growO (olds := cur.toList.take (len * sz)) hxe (Nat.lt_of_not_le hroom) (run_firstCells_some w.drew i.size len _ len cap _ (by rw [hisz]; simp; omega) fun j u hj => ?_) ?_ (fun r hr => q3 r (List.mem_of_mem_take hr))
          · rw [List.getElem?_take] at hj
            split at hj
            · rw [add0, hoff', Nat.zero_add]
              show w.cell? _ = _
              rw [cell_blk q1]
              simpa using hj
            · cases hj
          · have := q5.take (len * sz)
            rw [List.take_take, Nat.min_eq_left hmul, ← take_flatten' len xs q3] at this
            exact this
    | sl0 _ _ _ A hul hm0 =>
      by_cases hr0 : rows.length = 0
      · have hrn : rows = [] := List.eq_nil_of_length_eq_zero hr0
        subst hrn
        obtain ⟨g1, g2⟩ := still rfl hxe (Nat.le_refl _)
        refine ⟨_, _, w, g1, g2, ?_⟩
        have := RF.sl0 (w := w) (F := F) (U := fun k => upds s.H [(l, .dead), (nm, .cells e sz (xs.take 0 ++ []))] k ≠ none) (m := fun k => if k = nm then m l else m k) nm sz 0 A (by simp [upds, upd]) (by simpa using hm0)
        simpa using this
      · exact growO (olds := []) hxe (by omega) (first_none _ _ _ _) (by simpa using RFs.nil) (by simp)
  · cases hs
end
end Go.FM
namespace Go.FM
open Go

section
variable {P : Program} {X : Ctx} {c : Cfg} {w w' : World} {F F' : Nat → Prop} {U : Loc → Prop} {m m' : Loc → Nat × Nat} {s s' : FS} {a a' : Act} {o : Oper} {H : Heap}

/-- rows in the middle are replaced -/
theorem RelX.splice (h : RelX X F m s a w) {l : Loc} {T : TypeId} {sz off : Nat} {xs rows : List (List FV)} {vs : List Value} (hl : s.H l = some (.cells T sz xs)) (h0 : (m l).2 ≠ 0) (hle : off + rows.length ≤ xs.length)
    (hrow : ∀ r ∈ rows, r.length = sz) (hv : RFs w F (fun k => s.H k ≠ none) m rows.flatten vs) (h1 : ∀ v ∈ vs, v.oneCell' = true) :
    ∃ w', (storeCells ⟨(m l).1, off * sz, none⟩ vs).run P w = .ok () w' ∧ RelX X F m { s with H := upd s.H l (.cells T sz (xs.take off ++ (rows ++ xs.drop (off + rows.length)))) } a w' := by
  have hvl : vs.length = rows.length * sz := by rw [← hv.length]; exact flat_length sz rows hrow
  rcases h.heap.obj l _ hl with ⟨_, h00⟩ | ⟨_, cur, g1, g2, g3, g4, g5⟩
  · exact absurd h00 h0
  have hmul : (off + rows.length) * sz ≤ xs.length * sz := Nat.mul_le_mul_right _ hle
  have hadd : (off + rows.length) * sz = off * sz + vs.length := by rw [Nat.add_mul, hvl]
  have hst := run_storeCells_at P (m l).1 (off * sz) T vs 0 cur w g1 (by omega) h1
  simp only [Nat.add_zero] at hst
  refine ⟨_, hst, ?_⟩
  have hlive : Live s.H m l := ⟨_, hl, by simp, h0⟩
  have hU : ∀ k, s.H k ≠ none → upd s.H l (.cells T sz (xs.take off ++ (rows ++ xs.drop (off + rows.length)))) k ≠ none := fun k hk => by unfold upd; split <;> simp [hk]
  have hFne : ∀ b, F b → (w.setRow (m l).1 (cur.toList.take (off * sz) ++ vs ++ cur.toList.drop (off * sz + vs.length)).toArray).heap[b]? = w.heap[b]? := fun b hb =>
    setRow_other w _ b _ (fun e => (h.heap.old l hlive).2 (e ▸ hb))
  have hnl : (xs.take off ++ (rows ++ xs.drop (off + rows.length))).length = xs.length := by simp; omega
  refine h.write hl hlive (by simp) (by simp [World.setRow]) (fun b _ hb => setRow_other w _ b _ hb) rfl rfl rfl (.inr ⟨h0, _, setRow_heap w _ cur _ T _ g1, ?_, ?_, ?_, ?_⟩)
  · simp; omega
  · intro x hx
    rcases List.mem_append.1 hx with hx | hx
    · exact g3 x (List.mem_of_mem_take hx)
    · rcases List.mem_append.1 hx with hx | hx
      · exact hrow x hx
      · exact g3 x (List.mem_of_mem_drop hx)
  · rw [hnl]
    simp only [List.size_toArray, List.length_append, List.length_take, List.length_drop, Array.length_toList]
    omega
  · rw [List.flatten_append, List.flatten_append, take_flatten' off xs g3, drop_flatten' _ xs g3]
    have e3 : ((cur.toList.take (off * sz) ++ vs ++ cur.toList.drop (off * sz + vs.length)).toArray.toList.take ((xs.take off ++ (rows ++ xs.drop (off + rows.length))).length * sz)) =
        (cur.toList.take (xs.length * sz)).take (off * sz) ++ (vs ++ (cur.toList.take (xs.length * sz)).drop ((off + rows.length) * sz)) := by
      rw [hnl, List.toList_toArray, List.take_take, Nat.min_eq_left (by omega), List.append_assoc, List.take_append, List.take_of_length_le (by simp; omega)]
      congr 1
      rw [List.take_append, List.take_of_length_le (by simp; omega)]
      congr 1
      rw [hadd, List.drop_take, List.length_take, Nat.min_eq_left (by simp; omega)]
      congr 1
      omega
    rw [e3]
    have hk := g5.keep (F' := F) (fun _ h => h) hFne hU (fun _ _ => rfl) (m' := m)
    exact (hk.take _).append ((hv.keep (fun _ h => h) hFne hU (fun _ _ => rfl)).append (hk.drop _))

def wClear (P : Program) (H : Heap) (t : TypeId) (x : FV) : Option (List (Loc × FO) × FV) := match x with
  | .nilm => if hasT P t then some ([], .tup []) else none
  | .nils => if hasT P t then some ([], .tup []) else none
  | .emp => if hasT P t then some ([], .tup []) else none
  | .mp l => match H l, P.underlying t with
    | some (.map _ clk), some (.map _ _) => some ([(l, .map [] clk)], .tup [])
    | _, _ => none
  | .sl _ _ _ 0 => if hasT P t then some ([], .tup []) else none
  | .sl l sz off len => match H l, slT P t with
    | some (.cells T sz'' xs), some (e, sz') => match zeroC P e with
      | some z => if (decide (sz' = sz) && decide (sz'' = sz)) && (decide (z.length = sz) && (decide (0 < sz) && (decide (off + len ≤ xs.length) && z.all FV.cellV))) then some ([(l, .cells T sz (xs.take off ++ (List.replicate len z ++ xs.drop (off + len))))], .tup []) else none
      | none => none
    | _, _ => none
  | _ => none
theorem wClear_ok {t : TypeId} {x : Operand} {us : List (Loc × FO)} {v : FV} (hs : wClear P s.H t (rv s x) = some (us, v)) (ho : o.op = .call { callee := .builtin .clear, args := ⟨[x]⟩, argTypes := ⟨[t]⟩ }) : WOk P s o us v := by
  intro X F m a w h
  have hexec : ∀ w', (Builtin.clear_ #[t] o.type #[a.eval x]).run P w = .ok (.tuple #[]) w' → Ran P o a w (.tuple #[]) w' := fun w' hr => .inl (by simp [execOp, ho, resolve, invoke, builtin, hr])
  have hxv := rv_ok h x
  have unit : ∀ w', RF w' F (fun l => upds s.H us l ≠ none) m (.tup []) (.tuple #[]) := fun w' => .tup [] [] .nil
  have none' : us = [] → v = .tup [] → (Builtin.clear_ #[t] o.type #[a.eval x]).run P w = .ok (.tuple #[]) w → ∃ (m' : Loc → Nat × Nat) (u : Value) (w' : World), Ran P o a w u w' ∧ RelX X F m' { s with H := upds s.H us } a w' ∧ RF w' F (fun l => upds s.H us l ≠ none) m' v u := by
    rintro rfl rfl hr
    exact ⟨m, _, w, hexec _ hr, h, unit w⟩
  unfold wClear at hs
  split at hs
  · rename_i hx
    split at hs
    case isFalse => cases hs
    rename_i ht
    obtain ⟨d, hd⟩ := Option.isSome_iff_exists.1 ht
    simp only [Option.some.injEq, Prod.mk.injEq] at hs
    rw [hx] at hxv
    generalize hxe : a.eval x = vx at hxv
    cases hxv
    refine none' hs.1.symm hs.2.symm ?_
    rw [hxe]; simp [Builtin.clear_, run_underlying hd]
  · rename_i hx
    split at hs
    case isFalse => cases hs
    rename_i ht
    obtain ⟨d, hd⟩ := Option.isSome_iff_exists.1 ht
    simp only [Option.some.injEq, Prod.mk.injEq] at hs
    rw [hx] at hxv
    generalize hxe : a.eval x = vx at hxv
    cases hxv
    refine none' hs.1.symm hs.2.symm ?_
    rw [hxe]; simp [Builtin.clear_, run_underlying hd]
  · rename_i hx
    split at hs
    case isFalse => cases hs
    rename_i ht
    obtain ⟨d, hd⟩ := Option.isSome_iff_exists.1 ht
    simp only [Option.some.injEq, Prod.mk.injEq] at hs
    rw [hx] at hxv
    generalize hxe : a.eval x = vx at hxv
    cases hxv with
    | emp A =>
    refine none' hs.1.symm hs.2.symm ?_
    rw [hxe]; cases A <;> simp [Builtin.clear_, run_underlying hd]
  · rename_i l hx
    split at hs
    case h_2 => cases hs
    rename_i es clk k e hl hu
    simp only [Option.some.injEq, Prod.mk.injEq] at hs
    obtain ⟨rfl, rfl⟩ := hs
    rw [hx] at hxv
    generalize hxe : a.eval x = vx at hxv
    cases hxv with
    | mp _ hul =>
    obtain ⟨h0, ar, g1, g2⟩ := h.heap.obj _ _ hl
    exact ⟨m, _, _, hexec _ (by rw [hxe]; simp [Builtin.clear_, run_underlying hu, run_getMap g1, run_setMap _ g1]), h.turn (o := .map [] clk) (ob := .map #[] clk) hl (by simp) h0 (by simp) g1 (fun w' q1 _ => ⟨h0, #[], q1, .nil⟩), unit _⟩
  · rename_i l sz off hx
    split at hs
    case isFalse => cases hs
    rename_i ht
    obtain ⟨d, hd⟩ := Option.isSome_iff_exists.1 ht
    simp only [Option.some.injEq, Prod.mk.injEq] at hs
    rw [hx] at hxv
    generalize hxe : a.eval x = vx at hxv
    refine none' hs.1.symm hs.2.symm ?_
    rw [hxe]
    cases hxv with
    | sl => simp [Builtin.clear_, run_underlying hd]
    | sl0 _ _ _ A => cases A <;> simp [Builtin.clear_, run_underlying hd]
  · rename_i l sz off len hlen hx
    split at hs
    case h_2 => cases hs
    rename_i T sz'' xs e sz' hl ht
    obtain ⟨hu, hz⟩ := slT_some ht
    split at hs
    case h_2 => cases hs
    rename_i z hzc
    split at hs
    case isFalse => cases hs
    rename_i hc
    simp only [Bool.and_eq_true, decide_eq_true_eq] at hc
    obtain ⟨⟨rfl, e2⟩, hzl, h0, hle, hcell⟩ := hc
    rw [e2] at hl
    simp only [Option.some.injEq, Prod.mk.injEq] at hs
    obtain ⟨rfl, rfl⟩ := hs
    have hpos : len ≠ 0 := fun e => hlen e
    obtain ⟨zv, g1, g2, g3⟩ := zeroC_ok (w := w) (F := F) (U := fun k => s.H k ≠ none) (m := m) hzc
    have hbase := zero_rep (len := len) h0 hzl (by omega) g2
    rw [hx] at hxv
    generalize hxe : a.eval x = vx at hxv
    cases hxv with
    | sl0 => exact absurd rfl hpos
    | sl _ _ _ _ cap o' hul hcap hoff hfit =>
    have hoff' := hoff.resolve_left (by omega)
    subst hoff'
    have hm0 : (m l).2 ≠ 0 := by
      intro hz
      rw [hz] at hfit
      have : 0 < (off + cap) * sz' := Nat.mul_pos (by omega) h0
      omega
    obtain ⟨w', k1, k2⟩ := h.splice (P := P) (off := off) (rows := List.replicate len z) hl hm0 (by simpa using hle) (fun r hr => by rw [List.eq_of_mem_replicate hr]; exact hzl) hbase (hbase.one (by
      rw [List.all_eq_true] at hcell ⊢
      intro x hx
      obtain ⟨r, hr, hxr⟩ := List.mem_flatten.1 hx
      rw [List.eq_of_mem_replicate hr] at hxr
      exact hcell x hxr))
    rw [List.length_replicate] at k2
    have hzs : zv.cells.size = sz' := by omega
    have hb : (Builtin.zeroCells zv.cells len).toList = ((Array.range (len * sz')).map fun k => zv.cells[k % zv.cells.size]!).toList := by unfold Builtin.zeroCells; rw [hzs]
    refine ⟨m, _, w', hexec _ ?_, k2, unit _⟩
    rw [hxe]
    rw [← hb] at k1
    cases len with
    | zero => exact absurd rfl hpos
    | succ n => simp [Builtin.clear_, run_underlying hu, g1, k1]
  · cases hs

/-! ### every operation but a call of a function -/
def wv (P : Program) (H : Heap) (nm : Loc) (ρ : Operand → FV) (o : Oper) : Option (List (Loc × FO) × FV) := match o.op with
  | .alloc t => wAlloc P H nm t
  | .box t x => wBox H nm t (ρ x)
  | .store t ad x => wStore P H t (ρ ad) (ρ x)
  | .buildSlice t len parts => wBuildS P H ρ nm t len parts
  | .makeSlice t x y => wMakeS P H nm t (ρ x) (ρ y)
  | .makeMap _ r => wMakeM P H nm (r.map ρ)
  | .mapUpdate t x k v => wMapU P H t (ρ x) (ρ k) (ρ v)
  | .insert t x k v => wMapU P H t (ρ x) (ρ k) (ρ v)
  | .range t x => wRange P H nm t (ρ x)
  | .next it str => wNext H (ρ it) str
  | .call { callee := .builtin .append, args := ⟨[x, y]⟩, argTypes := ⟨[t, tx]⟩ } => wApp P H nm t tx (ρ x) (ρ y)
  | .call { callee := .builtin .clear, args := ⟨[x]⟩, argTypes := ⟨[t]⟩ } => wClear P H t (ρ x)
  | _ => (pv P H ρ o).map fun v => ([], v)
theorem wv_ok {nm : Loc} {us : List (Loc × FO)} {v : FV} (hs : wv P s.H nm (rv s) o = some (us, v)) : WOk P s o us v := by
  unfold wv at hs
  split at hs
  · exact wAlloc_ok hs ‹_›
  · exact wBox_ok hs ‹_›
  · exact wStore_ok hs ‹_›
  · exact wBuildS_ok hs ‹_›
  · exact wMakeS_ok hs ‹_›
  · exact wMakeM_ok hs ‹_›
  · exact wMapU_ok hs (.inl ‹_›)
  · exact wMapU_ok hs (.inr ‹_›)
  · exact wRange_ok hs ‹_›
  · exact wNext_ok hs ‹_›
  · exact wApp_ok hs ‹_›
  · exact wClear_ok hs ‹_›
  · rw [Option.map_eq_some_iff] at hs
    obtain ⟨y, hy, e⟩ := hs
    simp only [Prod.mk.injEq] at e
    obtain ⟨rfl, rfl⟩ := e
    intro X F m a w h
    obtain ⟨u, h1, h2⟩ := pv_ok h hy
    exact ⟨m, u, w, .inl h1, h, h2⟩
end
end Go.FM
namespace Go.FM
open Go

/-- new names come -/
def ext (H A : Heap) : Heap := fun l => match A l with
  | some o => some o
  | none => H l
def noH : Heap := fun _ => none
theorem ext_noH (H : Heap) : ext H noH = H := rfl

section
variable {P : Program} {X : Ctx} {c : Cfg} {w w' : World} {F F' : Nat → Prop} {m m' : Loc → Nat × Nat} {s s' : FS} {a a' : Act} {o : Oper}

/-- a part of the heap -/
def HSub (H1 H : Heap) : Prop := ∀ l o, H1 l = some o → H l = some o
theorem HSub.refl (H : Heap) : HSub H H := fun _ _ h => h
theorem HSub.ne {H1 H : Heap} (h : HSub H1 H) {l : Loc} (hl : H1 l ≠ none) : H l ≠ none := by
  obtain ⟨o, ho⟩ := Option.ne_none_iff_exists'.1 hl
  rw [h l o ho]; simp
theorem HeapR.sub {H1 H : Heap} (hs : HSub H1 H) (hU : ∀ l, H l ≠ none → H1 l ≠ none ∨ True) (h : HeapR w F m H) (hv : ∀ l o, H1 l = some o → OR w F H1 m l o) : HeapR w F m H1 :=
  ⟨hv, fun l l' hl hl' e => h.inj l l' (by obtain ⟨o, g1, g2⟩ := hl; exact ⟨o, hs l o g1, g2⟩) (by obtain ⟨o, g1, g2⟩ := hl'; exact ⟨o, hs l' o g1, g2⟩) e,
   fun l hl => h.old l (by obtain ⟨o, g1, g2⟩ := hl; exact ⟨o, hs l o g1, g2⟩)⟩

/-- loads and lengths see a larger heap as they saw the smaller one -/
theorem fLoad_mono {H1 H : Heap} (hs : HSub H1 H) {t : TypeId} {x y : FV} (h : fLoad P H1 t x = some y) : fLoad P H t x = some y := by
  unfold fLoad at h ⊢
  split at h
  case h_3 => exact h
  · cases h
  · split at h
    · rename_i l sz i off
      split at h
      · rename_i T sz' xs hl
        simp only [hs _ _ hl]
        exact h
      · cases h
    · exact h
    · cases h
  · split at h
    · rename_i l sz i off
      split at h
      · rename_i T sz' xs hl
        simp only [hs _ _ hl]
        exact h
      · cases h
    · exact h
    · cases h
theorem fLen_mono {H1 H : Heap} (hs : HSub H1 H) {t : TypeId} {x y : FV} (h : fLen P H1 t x = some y) : fLen P H t x = some y := by
  unfold fLen at h ⊢
  split at h
  case h_6 =>
    split at h
    · rename_i hu hl
      simp only [hu, hs _ _ hl]
      exact h
    · cases h
  all_goals exact h
theorem pv1_mono {H1 H : Heap} (hs : HSub H1 H) {ρ : Operand → FV} {y : FV} (h : pv1 P H1 ρ o = some y) : pv1 P H ρ o = some y := by
  unfold pv1 at h ⊢
  split at h
  case h_10 => exact fLoad_mono hs h
  case h_14 => exact fLen_mono hs h
  all_goals exact h
theorem pv1_congr {H : Heap} {ρ ρ' : Operand → FV} (h : ∀ x ∈ o.op.operands.toList, ρ' x = ρ x) : pv1 P H ρ' o = pv1 P H ρ o := by
  unfold pv1
  split
  case h_8 =>
    rename_i t parts ho
    rw [ho] at h
    have e : (parts.toList.map (·.2)).map ρ' = (parts.toList.map (·.2)).map ρ := List.map_congr_left fun x hx => h x (by simpa [Op.operands] using hx)
    rw [e]
  case h_12 =>
    rename_i t x lo hi ho
    rw [ho] at h
    simp only [Op.operands] at h
    rw [h x (by simp)]
    have e1 : lo.map ρ' = lo.map ρ := by cases lo with
      | none => rfl
      | some y => simp only [Option.map_some]; rw [h y (by simp)]
    have e2 : hi.map ρ' = hi.map ρ := by cases hi with
      | none => rfl
      | some y => simp only [Option.map_some]; rw [h y (by simp)]
    rw [e1, e2]
  case h_13 =>
    rename_i f first caps ho
    rw [ho] at h
    simp only [Op.operands] at h
    have e1 : first.toList.map ρ' = first.toList.map ρ := List.map_congr_left fun x hx => h x (by simp at hx ⊢; simp [hx])
    have e2 : caps.toList.map ρ' = caps.toList.map ρ := List.map_congr_left fun x hx => h x (by simp at hx ⊢; simp [hx])
    rw [e1, e2]
  all_goals first
    | rfl
    | (rename_i ho
       rw [ho] at h
       simp only [Op.operands, Call.operands] at h
       simp only [List.mem_cons, List.not_mem_nil, or_false, forall_eq_or_imp, forall_eq, List.nil_append, Array.toList_append, List.mem_append, false_or] at h
       first
        | rw [h]
        | rw [h.1, h.2]
        | rw [h.1, h.2.1, h.2.2]
        | (simp only [h])
        | (simp only [h.1, h.2]))

theorem fLook_mono {H1 H : Heap} (hs : HSub H1 H) {t : TypeId} {x i y : FV} {ok : Bool} (h : fLook P H1 t x i ok = some y) : fLook P H t x i ok = some y := by
  unfold fLook at h ⊢
  split at h
  · cases h
  split at h
  case isFalse => cases h
  rename_i hk
  simp only [hk, if_true]
  split at h
  · split at h
    · rename_i hl
      simp only [hs _ _ hl]
      exact h
    · cases h
  · exact h
  · cases h
theorem fEntry_mono {H1 H : Heap} (hs : HSub H1 H) {it y : FV} (h : fEntry H1 it = some y) : fEntry H it = some y := by
  unfold fEntry at h ⊢
  split at h
  case h_2 => cases h
  split at h
  case h_2 => cases h
  rename_i hl
  split at h
  case h_2 => cases h
  rename_i hk
  simp only [hs _ _ hl, hs _ _ hk]
  exact h
theorem pv2_mono {H1 H : Heap} (hs : HSub H1 H) {ρ : Operand → FV} {y : FV} (h : pv2 P H1 ρ o = some y) : pv2 P H ρ o = some y := by
  unfold pv2 at h ⊢
  split at h
  case h_1 => exact fLook_mono hs h
  case h_9 => exact fEntry_mono hs h
  all_goals exact h
theorem pv2_congr {H : Heap} {ρ ρ' : Operand → FV} (h : ∀ x ∈ o.op.operands.toList, ρ' x = ρ x) : pv2 P H ρ' o = pv2 P H ρ o := by
  unfold pv2
  split
  case h_7 =>
    rename_i x xs ts ho
    rw [ho] at h
    simp only [Op.operands, Call.operands] at h
    rw [h x (by simp), List.map_congr_left fun y hy => h y (by simp [hy])]
  case h_8 =>
    rename_i x xs ts ho
    rw [ho] at h
    simp only [Op.operands, Call.operands] at h
    rw [h x (by simp), List.map_congr_left fun y hy => h y (by simp [hy])]
  case h_10 =>
    rename_i t parts ho
    rw [ho] at h
    have e : (parts.toList.map (·.2)).map ρ' = (parts.toList.map (·.2)).map ρ := List.map_congr_left fun x hx => h x (by simpa [Op.operands] using hx)
    unfold fBuildA
    rw [e]
  case h_11 =>
    rename_i t x lo hi mx ho
    rw [ho] at h
    simp only [Op.operands] at h
    rw [h x (by simp), h mx (by simp)]
    have e1 : lo.map ρ' = lo.map ρ := by cases lo with
      | none => rfl
      | some y => simp only [Option.map_some]; rw [h y (by simp)]
    have e2 : hi.map ρ' = hi.map ρ := by cases hi with
      | none => rfl
      | some y => simp only [Option.map_some]; rw [h y (by simp)]
    rw [e1, e2]
  all_goals first
    | rfl
    | (rename_i ho
       rw [ho] at h
       simp only [Op.operands, Call.operands] at h
       simp only [List.mem_cons, List.not_mem_nil, or_false, forall_eq_or_imp, forall_eq, List.nil_append, Array.toList_append, List.mem_append, false_or] at h
       first
        | rw [h]
        | rw [h.1, h.2]
        | (simp only [h])
        | (simp only [h.1, h.2]))
theorem pv1_same {H1 H : Heap} {ρ : Operand → FV} {y : FV} (h : pv2 P H1 ρ o = some y) : pv1 P H ρ o = pv1 P H1 ρ o := by
  unfold pv2 at h
  split at h
  case h_12 => cases h
  case h_10 =>
    rename_i ho
    simp only [pv1, ho]
  all_goals
    rename_i ho
    simp only [pv1, ho]
theorem pv_mono {H1 H : Heap} (hs : HSub H1 H) {ρ : Operand → FV} {y : FV} (h : pv P H1 ρ o = some y) : pv P H ρ o = some y := by
  unfold pv at h ⊢
  cases h1 : pv1 P H1 ρ o with
  | some z => rw [h1] at h; rw [pv1_mono hs h1]; exact h
  | none =>
    rw [h1] at h
    rw [pv1_same h, h1]
    exact pv2_mono hs h
theorem pv_congr {H : Heap} {ρ ρ' : Operand → FV} (h : ∀ x ∈ o.op.operands.toList, ρ' x = ρ x) : pv P H ρ' o = pv P H ρ o := by
  unfold pv
  rw [pv1_congr h, pv2_congr h]


theorem srcA_mono {H1 H : Heap} (hs : HSub H1 H) {sz : Nat} {x : FV} {r : List (List FV)} (h : srcA H1 sz x = some r) : srcA H sz x = some r := by
  unfold srcA at h ⊢
  split at h
  · exact h
  · exact h
  · exact h
  · split at h
    · rename_i hl
      simp only [hs _ _ hl]
      exact h
    · cases h
  · cases h
/-- what an operation writes is the same over a larger heap, as long as the names that it takes are new -/
theorem wv_mono {H1 H : Heap} (hs : HSub H1 H) {nm : Loc} {ρ : Operand → FV} {us : List (Loc × FO)} {v : FV} (h : wv P H1 nm ρ o = some (us, v)) (hf : ∀ u ∈ us, H u.1 = none) : wv P H nm ρ o = some (us, v) := by
  have bad : ∀ {l : Loc} {ob ob' : FO} {y : FV} {z : FV}, H1 l = some ob → some ([(l, ob')], y) = some (us, z) → False := fun {l ob ob' y z} hl he => by
    simp only [Option.some.injEq, Prod.mk.injEq] at he
    obtain ⟨rfl, _⟩ := he
    have := hf (l, ob') (by simp)
    rw [hs _ _ hl] at this
    cases this
  have new : ∀ {l : Loc} {ob' : FO} {y : FV} {z : FV}, some ([(l, ob')], y) = some (us, z) → H l = none := fun {l ob' y z} he => by
    simp only [Option.some.injEq, Prod.mk.injEq] at he
    obtain ⟨rfl, _⟩ := he
    exact hf (l, ob') (by simp)
  unfold wv at h ⊢
  split at h
  · unfold wAlloc at h ⊢
    split at h
    case h_2 => cases h
    split at h
    case isFalse => cases h
    have hn : H nm = none := by
      split at h
      · exact new h
      · exact new h
    simp only [hn, Option.isNone_none, if_true]
    exact h
  · unfold wBox at h ⊢
    split at h
    case isFalse => cases h
    rename_i hc
    simp only [Bool.and_eq_true] at hc
    simp only [hc.1.1, hc.1.2, new h, Option.isNone_none, Bool.and_self, if_true]
    exact h
  · unfold wStore at h ⊢
    split at h
    case h_1 => exact h
    case h_3 => cases h
    exfalso
    split at h
    case h_2 => cases h
    rename_i hl
    split at h
    case h_2 => cases h
    split at h
    case isFalse => cases h
    exact bad hl h
  · unfold wBuildS at h ⊢
    split at h
    case h_2 => cases h
    split at h
    case h_2 => cases h
    split at h
    case isFalse => cases h
    rename_i hc
    rw [Bool.and_eq_true] at hc
    have hnm : H nm = none := by
      rw [Option.bind_eq_some_iff] at h
      obtain ⟨r, _, h⟩ := h
      split at h
      · exact new h
      · cases h
    simp only [hc.1, hnm, Option.isNone_none, Bool.and_self, if_true]
    exact h
  · unfold wMakeS at h ⊢
    split at h
    case h_2 => cases h
    split at h
    case h_2 => cases h
    split at h
    case isFalse => cases h
    rename_i hc
    rw [Bool.and_eq_true] at hc
    simp only [hc.1, new h, Option.isNone_none, Bool.and_self, if_true]
    exact h
  · unfold wMakeM at h ⊢
    split at h
    · split at h
      · simp only [new h, Option.isNone_none, if_true]; exact h
      · cases h
    · cases h
  · exfalso
    unfold wMapU at h
    split at h
    case h_2 => cases h
    split at h
    case h_2 => cases h
    rename_i hl
    split at h
    case isFalse => cases h
    split at h
    · exact bad hl h
    · exact bad hl h
    · cases h
  · exfalso
    unfold wMapU at h
    split at h
    case h_2 => cases h
    split at h
    case h_2 => cases h
    rename_i hl
    split at h
    case isFalse => cases h
    split at h
    · exact bad hl h
    · exact bad hl h
    · cases h
  · unfold wRange at h ⊢
    split at h
    · cases h
    split at h
    case isFalse => cases h
    split at h
    · split at h
      · rename_i hl
        simp only [hs _ _ hl, new h, Option.isNone_none, if_true]; exact h
      · cases h
    · simp only [new h, Option.isNone_none, if_true]; exact h
    · cases h
  · unfold wNext at h ⊢
    split at h
    case h_2 => cases h
    split at h
    · rename_i hl
      simp only [hs _ _ hl]; exact h
    · rename_i hl
      split at h
      case h_2 => cases h
      rename_i hk
      simp only [hs _ _ hl, hs _ _ hk]
      exact h
    · cases h
  · unfold wApp at h ⊢
    split at h
    case h_2 => cases h
    split at h
    case h_2 => cases h
    split at h
    case isFalse => cases h
    rename_i hc0
    split at h
    case h_2 => cases h
    rename_i hsrc
    split at h
    case isFalse => cases h
    rename_i hcell
    simp only [srcA_mono hs hsrc, hcell, hc0, if_true]
    split at h
    · split at h
      · rename_i hr; simp only [hr, if_true]; exact h
      · rename_i hr
        split at h
        case isFalse => cases h
        rename_i hc
        rw [Bool.and_eq_true, Bool.and_eq_true] at hc
        simp only [hr, hc.1, hc.2.1, new h, Option.isNone_none, Bool.and_self, if_true]
        exact h
    · split at h
      case isFalse => cases h
      rename_i hc
      rw [Bool.and_eq_true, Bool.and_eq_true] at hc
      simp only [hc.1, hc.2.1, new h, Option.isNone_none, Bool.and_self, if_true]
      exact h
    · exfalso
      split at h
      · rename_i l _ _ _ _ _ _ hl
        split at h
        case isFalse => cases h
        simp only [Option.some.injEq, Prod.mk.injEq] at h
        obtain ⟨rfl, _⟩ := h
        have := hf (_, FO.dead) (List.mem_cons_self ..)
        rw [hs _ _ hl] at this
        cases this
      · cases h
    · cases h
  · unfold wClear at h ⊢
    split at h
    · exact h
    · exact h
    · exact h
    · exfalso
      split at h
      · rename_i hl _
        exact bad hl h
      · cases h
    · exact h
    · exfalso
      split at h
      · rename_i hl _
        split at h
        case h_2 => cases h
        split at h
        case isFalse => cases h
        exact bad hl h
      · cases h
    · cases h
  · rw [Option.map_eq_some_iff] at h ⊢
    obtain ⟨y, hy, e⟩ := h
    exact ⟨y, pv_mono hs hy, e⟩
theorem wBuildS_congr {H : Heap} {ρ ρ' : Operand → FV} {nm : Loc} {t : TypeId} {len : Nat} {parts : Array (Nat × Operand)} (h : ∀ x ∈ parts.toList.map (·.2), ρ' x = ρ x) : wBuildS P H ρ' nm t len parts = wBuildS P H ρ nm t len parts := by
  unfold wBuildS
  rw [List.map_congr_left h]
theorem wv_congr {H : Heap} {ρ ρ' : Operand → FV} {nm : Loc} (h : ∀ x ∈ o.op.operands.toList, ρ' x = ρ x) : wv P H nm ρ' o = wv P H nm ρ o := by
  unfold wv
  split
  case h_4 =>
    rename_i ho
    rw [ho] at h
    exact wBuildS_congr fun x hx => h x (by simpa [Op.operands] using hx)
  case h_6 =>
    rename_i r ho
    rw [ho] at h
    cases r with
    | none => rfl
    | some y => simp only [Option.map_some]; rw [h y (by simp [Op.operands])]
  case h_13 => rw [pv_congr h]
  all_goals first
    | rfl
    | (rename_i ho
       rw [ho] at h
       simp only [Op.operands, Call.operands] at h
       simp only [List.mem_cons, List.not_mem_nil, or_false, forall_eq_or_imp, forall_eq, List.nil_append, Array.toList_append, List.mem_append, false_or] at h
       first
        | rw [h]
        | rw [h.1, h.2]
        | rw [h.1, h.2.1, h.2.2]
        | (simp only [h])
        | (simp only [h.1, h.2])
        | (simp only [h.1, h.2.1, h.2.2]))
end
end Go.FM
namespace Go.FM
open Go

/-- what a function does: called with these, over these blocks, it answers with this, and the blocks are then these -/
def FC (P : Program) (G : List (Nat × List Value)) (f : FuncId) (args : List FV) (H : Heap) (r : FV) (H' : Heap) : Prop :=
  ∀ (w : World) (F : Nat → Prop) (m : Loc → Nat × Nat) (vs : List Value), (∀ y, F y → y < w.heap.size) → GlobOk G F w → RFs w F (fun l => H l ≠ none) m args vs → HeapR w F m H →
    Calls P f vs.toArray w fun e w' => ∃ (v : Value) (F' : Nat → Prop) (m' : Loc → Nat × Nat), e = .returned v ∧ (∀ y, F y → F' y) ∧ (∀ y, F' y → (F y ∨ w.heap.size ≤ y) ∧ y < w'.heap.size) ∧
      (∀ l, H l ≠ none → m' l = m l ∧ H' l ≠ none) ∧ RF w' F' (fun l => H' l ≠ none) m' r v ∧ HeapR w' F' m' H' ∧ (∀ l, Live H' m' l → (∃ k, Live H m k ∧ (m k).1 = (m' l).1) ∨ w.heap.size ≤ (m' l).1) ∧
      w.heap.size ≤ w'.heap.size ∧ (∀ y, y < w.heap.size → (∀ l, Live H m l → (m l).1 ≠ y) → w'.heap[y]? = w.heap[y]?) ∧ w'.os = w.os ∧ w'.tape = w.tape ∧ w'.output = w.output

def fnOk (P : Program) (f : FuncId) : Bool := match P.funcs[f]? with
  | some fn => fn.name != "runtime.NumGoroutine" && fn.body.isSome
  | none => false

section
variable {P : Program} {X : Ctx} {c : Cfg} {w w' : World} {F F' : Nat → Prop} {m m' : Loc → Nat × Nat} {s s' : FS} {a a' : Act} {o : Oper}

theorem rvs_ok (h : RelX X F m s a w) : ∀ l : List Operand, RFs w F (fun l => s.H l ≠ none) m (l.map (rv s)) (l.map a.eval)
  | [] => .nil
  | x :: l => .cons _ _ _ _ (rv_ok h x) (rvs_ok h l)

/-- behind a call: the state's blocks are as the contract says -/
theorem RelX.called (h : RelX X F m s a w) {H' : Heap} (hF1 : ∀ y, F y → F' y) (hF2 : ∀ y, F' y → (F y ∨ w.heap.size ≤ y) ∧ y < w'.heap.size) (hm : ∀ l, s.H l ≠ none → m' l = m l ∧ H' l ≠ none) (hH : HeapR w' F' m' H')
    (hl : ∀ l, Live H' m' l → (∃ k, Live s.H m k ∧ (m k).1 = (m' l).1) ∨ w.heap.size ≤ (m' l).1) (hsz : w.heap.size ≤ w'.heap.size) (hold : ∀ y, y < w.heap.size → (∀ l, Live s.H m l → (m l).1 ≠ y) → w'.heap[y]? = w.heap[y]?)
    (hos : w'.os = w.os) (htape : w'.tape = w.tape) (hout : w'.output = w.output) : RelX X F' m' { s with H := H' } a w' := by
  refine { df := h.df, vsz := h.vsz, val := fun t => (h.val t).keep hF1 (fun b hb => hold b (h.frz b hb) fun l hl e => (h.heap.old l hl).2 (e ▸ hb)) (fun l hl => (hm l hl).2) (fun l hl => (hm l hl).1), heap := hH, own := fun l hl' => ?_, ext := fun l hl' => (hm l (h.ext l hl')).2, mfix := fun l hl' => (hm l (h.ext l hl')).1.trans (h.mfix l hl'),
           frz := fun b hb => (hF2 b hb).2, keep := fun b hb hn => ?_, size := Nat.le_trans h.size hsz, os := hos.trans h.os, tape := htape.trans h.tape, output := hout.trans h.output }
  · rcases hl l hl' with ⟨k, h1, h2⟩ | h1
    · rw [← h2]
      exact h.own k h1
    · exact .inr (by have := h.size; omega)
  · rw [hold b (by have := h.size; omega) fun l hl' e => ?_]
    · exact h.keep b hb hn
    · rcases h.own l hl' with h1 | h1
      · exact hn (e ▸ h1)
      · omega

/-- the function that an operation calls, and with what -/
def callee? (s : FS) (o : Oper) : Option (FuncId × List FV) := match o.op with
  | .call { callee := .value x, args, argTypes := _ } => match rv s x with
    | .clo f first caps => some (f, first ++ args.toList.map (rv s) ++ caps)
    | _ => none
  | _ => none

theorem FC.mono_G {G : List (Nat × List Value)} {f : FuncId} {args : List FV} {H H' : Heap} {r : FV} (h : FC P [] f args H r H') : FC P G f args H r H' :=
  fun w F m vs hF _ hv hH => h w F m vs hF GlobOk.nil hv hH

theorem call_wp {f : FuncId} {A : List FV} {r : FV} {H' : Heap} {s1 : FS} {K : Act → World → Prop} {Q : Exit → Act → World → Prop} (hc : callee? s o = some (f, A)) (hf : fnOk P f = true) (hfc : FC P c.G f A s.H r H')
    (hp : putD c o r { s with H := H' } = some s1) (h : Rel X c s a w) (hK : ∀ v w', Rel X c s1 (a.put o.dst v) w' → K (a.put o.dst v) w') : o.wp P a w K Q := by
  obtain ⟨hN, F, m, h1, h2, h⟩ := h
  unfold callee? at hc
  split at hc
  case h_2 => cases hc
  rename_i x args ts ho
  split at hc
  case h_2 => cases hc
  rename_i g first caps hx
  simp only [Option.some.injEq, Prod.mk.injEq] at hc
  obtain ⟨rfl, rfl⟩ := hc
  have hxv := rv_ok h x
  rw [hx] at hxv
  generalize hvx : a.eval x = vx at hxv
  cases hxv with
  | clo _ _ _ us vs g1 g2 =>
  have hargs : RFs w F (fun l => s.H l ≠ none) m (first ++ args.toList.map (rv s) ++ caps) (us ++ args.toList.map a.eval ++ vs) := (g1.append (rvs_ok h _)).append g2
  have hrun : (execOp a.eval o).run P w = .ok (.enter g (us ++ args.toList.map a.eval ++ vs).toArray) w := by
    unfold fnOk at hf
    split at hf
    · rename_i fn hfn
      simp only [Bool.and_eq_true, bne_iff_ne, ne_eq] at hf
      have hb : ¬ fn.body = none := fun hh => by rw [hh] at hf; simp at hf
      have e : (us ++ args.toList.map a.eval ++ vs).toArray = us.toArray ++ args.map a.eval ++ vs.toArray := by
        apply Array.ext'
        simp
      rw [e]
      simp [execOp, ho, resolve, hvx, Deferred.ofValue, invoke, callFunc, hfn, hb, hf.1]
    · cases hf
  unfold Oper.wp
  rw [hrun, Oper.upon_enter]
  refine (hfc w F m _ h.frz (h1.here h) hargs h.heap).mono ?_
  rintro e w' ⟨v, F', m', rfl, k1, k2, k3, k4, k5, k6, k7, k8, k9, k10, k11⟩
  have hR := h.called k1 k2 k3 k5 k6 k7 k8 k9 k10 k11
  refine hK v w' ⟨by rw [size_put]; exact hN, F', m', h1.more k1, fun y hy => ?_, putD_ok hR hN k4 hp⟩
  rcases (k2 y hy).1 with h' | h'
  · exact h2 y h'
  · exact .inr (by have := h.size; omega)

theorem step_wp {K : Act → World → Prop} {Q : Exit → Act → World → Prop} (hs : Snd P c o s s') (h : Rel X c s a w) (hK : ∀ v w', Rel X c s' (a.put o.dst v) w' → K (a.put o.dst v) w') : o.wp P a w K Q := by
  obtain ⟨hN, F, m, h1, h2, h⟩ := h
  obtain ⟨m', v, w', hrun, h'⟩ := hs X F m a w hN h
  have := hK v w' ⟨by rw [size_put]; exact hN, F, m', h1, h2, h'⟩
  unfold Oper.wp
  rcases hrun with hrun | ⟨hrun, rfl⟩
  · rw [hrun]; exact this
  · rw [hrun]; exact this

/-! ### a region -/
def fStep (P : Program) (c : Cfg) (o : Oper) (s : FS) : Option FS := match wv P s.H (c.nm (o.dst.getD 0) s.ix) (rv s) o with
  | some (us, v) => putD c o v { s with H := upds s.H us }
  | none => none
theorem fStep_ok (hs : fStep P c o s = some s') : Snd P c o s s' := by
  unfold fStep at hs
  split at hs
  · exact (wv_ok ‹_›).snd hs
  · cases hs
def guardV (ops : Array Oper) (o : Oper) (s : FS) : Option Bool := match o.guard with
  | none => some true
  | some (j, want) => match (ops[j]?).bind (·.dst) with
    | some d => match s.get d with
      | .bool b => some (b == want)
      | .tup [] => some false
      | _ => none
    | none => none
def wStep (P : Program) (c : Cfg) (o : Oper) (s : FS) (K : FS → Prop) : Prop := match callee? s o with
  | some (f, A) => fnOk P f = true ∧ ∃ r H', FC P c.G f A s.H r H' ∧ ∃ s1, putD c o r { s with H := H' } = some s1 ∧ K s1
  | none => ∃ s1, fStep P c o s = some s1 ∧ K s1
def wOps (P : Program) (c : Cfg) (ops : Array Oper) : List Oper → (FS → Prop) → FS → Prop
  | [], K, s => K s
  | o :: rest, K, s => match guardV ops o s with
    | some true => wStep P c o s (wOps P c ops rest K)
    | some false => ∃ s1, putD c o (.tup []) s = some s1 ∧ wOps P c ops rest K s1
    | none => False

theorem guard_ok {ops : Array Oper} {b : Bool} (h : Rel X c s a w) (hg : guardV ops o s = some b) : Region.wanted o (yielded ops a.tmps) = b := by
  obtain ⟨_, F, m, _, _, h⟩ := h
  unfold guardV at hg
  unfold Region.wanted
  split at hg
  · rename_i hn; rw [hn]; simpa using hg
  · rename_i j want hj
    rw [hj]
    simp only
    split at hg
    · rename_i d hd
      split at hg
      · rename_i b' hb'
        have hv := h.val d
        rw [hb'] at hv
        generalize hvv : a.tmps.getD d undef = v at hv
        cases hv
        have : a.tmps[d]? = some (.bool b') := by
          rw [Array.getD_eq_getD_getElem?] at hvv
          cases hh : a.tmps[d]? with
          | none => rw [hh] at hvv; simp [undef] at hvv
          | some u => rw [hh] at hvv; simpa using hvv
        have hy : yielded ops a.tmps j = some b' := by
          unfold yielded
          rw [hd, Option.bind_some, this]
        rw [hy]
        simpa using hg
      · rename_i hb'
        obtain rfl : false = b := by simpa using hg
        have hv := h.val d
        rw [hb'] at hv
        generalize hvv : a.tmps.getD d undef = v at hv
        cases hv with
        | tup _ vs hvs =>
        cases hvs
        have hy : yielded ops a.tmps j = none := by
          unfold yielded
          rw [hd, Option.bind_some]
          rw [Array.getD_eq_getD_getElem?] at hvv
          cases hh : a.tmps[d]? with
          | none => rfl
          | some u => rw [hh] at hvv; simp only [Option.getD_some] at hvv; subst hvv; rfl
        rw [hy]
        rfl
      · cases hg
    · cases hg
theorem skip_ok {s1 : FS} (h : Rel X c s a w) (hs : putD c o (.tup []) s = some s1) : Rel X c s1 (a.put o.dst undef) w := by
  obtain ⟨hN, F, m, h1, h2, h⟩ := h
  exact ⟨by rw [size_put]; exact hN, F, m, h1, h2, putD_ok h hN (RF.tup [] [] .nil) hs⟩

theorem wOps_ok {ops : Array Oper} {Q : Exit → Act → World → Prop} {K : FS → Prop} (hK : ∀ s a w, Rel X c s a w → K s → Q .normal a w) :
    ∀ (l : List Oper) (s : FS) (a : Act) (w : World), Rel X c s a w → wOps P c ops l K s → wpList P ops Q l a w
  | [], s, a, w, h, hs => hK s a w h hs
  | o :: rest, s, a, w, h, hs => by
    have ih := wOps_ok (ops := ops) hK rest
    simp only [wOps] at hs
    unfold wpList
    split at hs
    · rename_i hg
      rw [if_pos (guard_ok h hg)]
      left
      unfold wStep at hs
      split at hs
      · rename_i f A hc
        obtain ⟨hf, r, H', hfc, s1, hp, hs⟩ := hs
        exact call_wp hc hf hfc hp h fun v w' h' => ih s1 _ _ h' hs
      · obtain ⟨s1, hst, hs⟩ := hs
        exact step_wp (fStep_ok hst) h fun v w' h' => ih s1 _ _ h' hs
    · rename_i hg
      rw [if_neg (by rw [guard_ok h hg]; simp)]
      obtain ⟨s1, hst, hs⟩ := hs
      exact ih s1 _ _ (skip_ok h hst) hs
    · exact hs.elim
end
end Go.FM
namespace Go.FM
open Go

section
variable {P : Program} {X : Ctx} {c : Cfg} {w w' : World} {F F' : Nat → Prop} {m m' : Loc → Nat × Nat} {s s' : FS} {a a' : Act} {o : Oper}

/-! ### heads: operations that may come in any order -/
def depT : Operand → List Nat
  | .tmp t => [t]
  | _ => []
def guardD (ops : Array Oper) (o : Oper) : List Nat := match o.guard with
  | some (j, _) => ((ops[j]?).bind (·.dst)).toList
  | none => []
def deps (ops : Array Oper) (o : Oper) : List Nat := guardD ops o ++ o.op.operands.toList.flatMap depT

theorem rv_congr {s2 : FS} {x : Operand} (h : ∀ t ∈ depT x, s2.get t = s.get t) : rv s2 x = rv s x := by
  cases x with
  | tmp t => exact h t (by simp [depT])
  | _ => rfl
theorem rv_deps {ops : Array Oper} {s2 : FS} (h : ∀ t ∈ deps ops o, s2.get t = s.get t) : ∀ x ∈ o.op.operands.toList, rv s2 x = rv s x := fun x hx =>
  rv_congr fun t ht => h t (by simp only [deps, List.mem_append]; right; rw [List.mem_flatMap]; exact ⟨x, hx, ht⟩)
theorem guardV_congr {ops : Array Oper} {s2 : FS} (h : ∀ t ∈ deps ops o, s2.get t = s.get t) : guardV ops o s2 = guardV ops o s := by
  unfold guardV
  cases hg : o.guard with
  | none => rfl
  | some jw =>
    obtain ⟨j, want⟩ := jw
    simp only
    cases hdst : (ops[j]?).bind (·.dst) with
    | none => rfl
    | some d => simp only; rw [h d (by simp [deps, guardD, hg, hdst])]
theorem callee_congr {ops : Array Oper} {s2 : FS} (h : ∀ t ∈ deps ops o, s2.get t = s.get t) : callee? s2 o = callee? s o := by
  have hd := rv_deps h
  unfold callee?
  split
  · rename_i x args ts ho
    rw [ho] at hd
    simp only [Op.operands, Call.operands] at hd
    rw [hd x (by simp)]
    have e : args.toList.map (rv s2) = args.toList.map (rv s) := List.map_congr_left fun y hy => hd y (by simp at hy ⊢; simp [hy])
    rw [e]
  · rfl

/-- an operation that reads what it depends on, puts a value into its slot and makes new blocks -/
def Calm (P : Program) (c : Cfg) (ops : Array Oper) (o : Oper) (s : FS) (d : Nat) (v : FV) (A : Heap) : Prop :=
  o.dst = some d ∧ d < c.N ∧
  ∀ (X : Ctx) (s2 : FS) (a : Act) (w : World) (K : Act → World → Prop) (Q : Exit → Act → World → Prop), (∀ t ∈ deps ops o, s2.get t = s.get t) → s2.ix = s.ix → HSub s.H s2.H → (∀ l, A l ≠ none → s2.H l = none) → Rel X c s2 a w →
    (∀ u w', Rel X c ({ s2 with H := ext s2.H A }.put d v) (a.put o.dst u) w' → K (a.put o.dst u) w') →
    if Region.wanted o (yielded ops a.tmps) then o.wp P a w K Q ∨ (o.asks P a w ∧ LetsOut Q) else K (a.put o.dst undef) w

/-- the same for an operation that may end names that it knows -/
def Calm2 (P : Program) (c : Cfg) (ops : Array Oper) (o : Oper) (s : FS) (d : Nat) (v : FV) (A : Heap) (kl : Loc → Prop) : Prop :=
  o.dst = some d ∧ d < c.N ∧
  ∀ (X : Ctx) (s2 : FS) (a : Act) (w : World) (K : Act → World → Prop) (Q : Exit → Act → World → Prop), (∀ t ∈ deps ops o, s2.get t = s.get t) → s2.ix = s.ix → HSub s.H s2.H → (∀ l, A l ≠ none → ¬ kl l → s2.H l = none) → Rel X c s2 a w →
    (∀ u w', Rel X c ({ s2 with H := ext s2.H A }.put d v) (a.put o.dst u) w' → K (a.put o.dst u) w') →
    if Region.wanted o (yielded ops a.tmps) then o.wp P a w K Q ∨ (o.asks P a w ∧ LetsOut Q) else K (a.put o.dst undef) w
theorem Calm.two {ops : Array Oper} {d : Nat} {v : FV} {A : Heap} (h : Calm P c ops o s d v A) : Calm2 P c ops o s d v A (fun _ => False) :=
  ⟨h.1, h.2.1, fun X s2 a w K Q h1 h2 h3 h4 => h.2.2 X s2 a w K Q h1 h2 h3 fun l hl => h4 l hl id⟩

theorem calm_nop {ops : Array Oper} {d : Nat} (hg : guardV ops o s = some false) (hd : o.dst = some d) (hN : d < c.N) : Calm P c ops o s d (.tup []) noH := by
  refine ⟨hd, hN, fun X s2 a w K Q h1 _ _ _ hR hK => ?_⟩
  rw [if_neg (by rw [guard_ok hR ((guardV_congr h1).trans hg)]; simp)]
  refine hK undef w (skip_ok hR ?_)
  unfold putD
  simp only [hd]
  rw [if_pos hN]; rfl
theorem calm_step {ops : Array Oper} {d : Nat} {v : FV} {A : Heap} (hg : guardV ops o s = some true) (hc : callee? s o = none) (hd : o.dst = some d) (hN : d < c.N)
    (hs : ∀ s2 : FS, (∀ t ∈ deps ops o, s2.get t = s.get t) → s2.ix = s.ix → HSub s.H s2.H → (∀ l, A l ≠ none → s2.H l = none) → fStep P c o s2 = some ({ s2 with H := ext s2.H A }.put d v)) : Calm P c ops o s d v A := by
  refine ⟨hd, hN, fun X s2 a w K Q h1 h2 h3 h4 hR hK => ?_⟩
  rw [if_pos (guard_ok hR ((guardV_congr h1).trans hg))]
  exact .inl (step_wp (fStep_ok (hs s2 h1 h2 h3 h4)) hR hK)
theorem upds_ext (us : List (Loc × FO)) : ∀ (H A : Heap), upds (ext H A) us = ext H (upds A us) := by
  induction us with
  | nil => exact fun _ _ => rfl
  | cons u us ih =>
    intro H A
    have e : upd (ext H A) u.1 u.2 = ext H (upd A u.1 u.2) := by
      funext k
      unfold upd ext
      by_cases e : k = u.1
      · simp [e]
      · simp [e]
    show upds (upd (ext H A) u.1 u.2) us = _
    rw [e, ih]
    rfl
theorem upds_noH (H : Heap) (us : List (Loc × FO)) : upds H us = ext H (upds noH us) := by
  have := upds_ext us H noH
  rwa [ext_noH] at this
theorem upds_mem : ∀ (us : List (Loc × FO)) (H : Heap), ∀ u ∈ us, upds H us u.1 ≠ none
  | [], _, _, h => by cases h
  | x :: us, H, u, h => by
    rcases List.mem_cons.1 h with rfl | h
    · exact upds_ne us (H := upd H u.1 u.2) (by simp [upd])
    · exact upds_mem us _ u h
theorem wv_deps {ops : Array Oper} {s2 : FS} {nm : Loc} {us : List (Loc × FO)} {v : FV} (hv : wv P s.H nm (rv s) o = some (us, v)) (h1 : ∀ t ∈ deps ops o, s2.get t = s.get t) (h3 : HSub s.H s2.H) (h4 : ∀ l, upds noH us l ≠ none → s2.H l = none) : wv P s2.H nm (rv s2) o = some (us, v) := by
  rw [wv_congr (rv_deps h1)]
  exact wv_mono h3 hv fun u hu => h4 _ (upds_mem us _ u hu)
theorem calm_wv {ops : Array Oper} {d : Nat} {us : List (Loc × FO)} {v : FV} (hg : guardV ops o s = some true) (hc : callee? s o = none) (hd : o.dst = some d) (hN : d < c.N) (hv : wv P s.H (c.nm d s.ix) (rv s) o = some (us, v)) : Calm P c ops o s d v (upds noH us) := by
  refine calm_step hg hc hd hN fun s2 h1 h2 h3 h4 => ?_
  have := wv_deps hv h1 h3 h4
  simp only [fStep, hd, Option.getD_some, h2, this, upds_noH s2.H us, putD]
  rw [if_pos hN]
theorem calm2_wv {ops : Array Oper} {d : Nat} {us : List (Loc × FO)} {v : FV} {kl : Loc → Prop} (hg : guardV ops o s = some true) (hc : callee? s o = none) (hd : o.dst = some d) (hN : d < c.N)
    (hv : ∀ s2 : FS, (∀ x ∈ o.op.operands.toList, rv s2 x = rv s x) → s2.ix = s.ix → HSub s.H s2.H → (∀ l, upds noH us l ≠ none → ¬ kl l → s2.H l = none) → wv P s2.H (c.nm d s2.ix) (rv s2) o = some (us, v)) : Calm2 P c ops o s d v (upds noH us) kl := by
  refine ⟨hd, hN, fun X s2 a w K Q h1 h2 h3 h4 hR hK => ?_⟩
  rw [if_pos (guard_ok hR ((guardV_congr h1).trans hg))]
  refine .inl (step_wp (fStep_ok (s' := { s2 with H := ext s2.H (upds noH us) }.put d v) ?_) hR hK)
  have := hv s2 (rv_deps h1) h2 h3 h4
  simp only [fStep, hd, Option.getD_some, this, upds_noH s2.H us, putD]
  rw [if_pos hN]
theorem calm_call {ops : Array Oper} {d : Nat} {f : FuncId} {args : List FV} {v : FV} {A : Heap} (hg : guardV ops o s = some true) (hc : callee? s o = some (f, args)) (hf : fnOk P f = true) (hd : o.dst = some d) (hN : d < c.N)
    (hfc : ∀ H2, HSub s.H H2 → (∀ l, A l ≠ none → H2 l = none) → FC P c.G f args H2 v (ext H2 A)) : Calm P c ops o s d v A := by
  refine ⟨hd, hN, fun X s2 a w K Q h1 h2 h3 h4 hR hK => ?_⟩
  rw [if_pos (guard_ok hR ((guardV_congr h1).trans hg))]
  refine .inl (call_wp ((callee_congr h1).trans hc) hf (hfc s2.H h3 h4) ?_ hR hK)
  unfold putD
  simp only [hd]
  rw [if_pos hN]
end
end Go.FM
namespace Go.FM
open Go

/-- what the operations of a region that draws its order ask of the edges: heads 0 .. n-1, in any order; then the tail, in the text's order -/
def waitsB (o : Oper) (j : Nat) : Bool := o.after.any fun e => Region.binds .any e && e.on == j
def depsB (ops : Array Oper) (n k : Nat) (o : Oper) : Bool :=
  (deps ops o).all fun t => (List.range n).all fun j => !(((ops[j]?).bind (·.dst)) == some t) || (decide (j < k) && waitsB o j)
def awH (P : Program) (c : Cfg) (ops : Array Oper) (n : Nat) (K : FS → Prop) (H0 : Heap) : Nat → List Oper → FS → List Heap → Prop
  | k, o :: rest, s, As => if k < n then ∃ d v A Hn kl, Calm2 P c ops o { s with H := Hn } d v A kl ∧ depsB ops n k o = true ∧ (∀ l, A l ≠ none → kl l ∨ s.H l = none) ∧ (∀ l, kl l → A l ≠ none ∧ H0 l = none ∧ ∀ (j : Nat) (Aj : Heap), As[j]? = some Aj → Aj l = none) ∧
      (∀ l ob, Hn l = some ob → H0 l = some ob ∨ (kl l ∧ s.H l = some ob) ∨ ∃ j Aj, As[j]? = some Aj ∧ waitsB o j = true ∧ Aj l = some ob) ∧ awH P c ops n K H0 (k + 1) rest ({ s with H := ext s.H A }.put d v) (As ++ [A])
    else wOps P c ops (o :: rest) K s
  | _, [], s, _ => K s
def seqFull (ops : Array Oper) (n : Nat) : Bool := Region.seqB .any ops (ops.size - n) n ((Array.range ops.size).map fun i => decide (i < n))
def backB (ops : Array Oper) : Bool := (List.range ops.size).all fun i => match ops[i]? with
  | some o => o.after.all fun e => !Region.binds .any e || decide (e.on < i)
  | none => true
def drawB (ops : Array Oper) (n : Nat) : Bool :=
  decide (n ≤ ops.size) && (((n == ops.size) || (Region.sinkB .any ops n && Region.chainB .any ops n)) && (seqFull ops n && (backB ops && decide (((ops.toList.take n).filterMap (·.dst)).Nodup))))
def awDraw (P : Program) (c : Cfg) (ops : Array Oper) (K : FS → Prop) (s : FS) : Prop := P.follows .mixedOrders = true ∧ ∃ n H0, drawB ops n = true ∧ HSub H0 s.H ∧ awH P c ops n K H0 0 ops.toList s []

structure Trace where
  sA : Nat → FS
  dA : Nat → Nat
  vA : Nat → FV
  AA : Nat → Heap

structure TraceOk (P : Program) (c : Cfg) (ops : Array Oper) (n : Nat) (H0 : Heap) (k : Nat) (T : Trace) : Prop where
  step : ∀ i, k ≤ i → i < n → ∃ o Hn kl, ops[i]? = some o ∧ Calm2 P c ops o { T.sA i with H := Hn } (T.dA i) (T.vA i) (T.AA i) kl ∧ depsB ops n i o = true ∧ (∀ l, T.AA i l ≠ none → kl l ∨ (T.sA i).H l = none) ∧ (∀ l, kl l → T.AA i l ≠ none ∧ H0 l = none ∧ ∀ j, j < i → T.AA j l = none) ∧
    (∀ l ob, Hn l = some ob → H0 l = some ob ∨ (kl l ∧ (T.sA i).H l = some ob) ∨ ∃ j, j < i ∧ waitsB o j = true ∧ T.AA j l = some ob) ∧ T.sA (i + 1) = { T.sA i with H := ext (T.sA i).H (T.AA i) }.put (T.dA i) (T.vA i)

theorem awH_trace {P : Program} {c : Cfg} {ops : Array Oper} {n : Nat} {K : FS → Prop} {H0 : Heap} (hn : n ≤ ops.size) : ∀ (m k : Nat) (l : List Oper) (s : FS) (As : List Heap), n - k = m → k ≤ n → As.length = k → l = ops.toList.drop k → awH P c ops n K H0 k l s As →
    ∃ T : Trace, T.sA k = s ∧ (∀ j A, As[j]? = some A → T.AA j = A) ∧ TraceOk P c ops n H0 k T ∧ wOps P c ops (ops.toList.drop n) K (T.sA n)
  | 0, k, l, s, As, hm, hk, hA, hl, h => by
    have : k = n := by omega
    subst this
    refine ⟨⟨fun _ => s, fun _ => 0, fun _ => .undef, fun j => (As[j]?).getD noH⟩, rfl, fun j A hj => by simp [hj], ⟨fun i hi hi' => by omega⟩, ?_⟩
    subst hl
    cases hd : ops.toList.drop k with
    | nil => rw [hd] at h; exact h
    | cons o rest => rw [hd] at h; simp only [awH, Nat.lt_irrefl, if_false] at h; exact h
  | m + 1, k, l, s, As, hm, hk, hA, hl, h => by
    have hkn : k < n := by omega
    have hks : k < ops.toList.length := by simp; omega
    have hd : ops.toList.drop k = ops.toList[k] :: ops.toList.drop (k + 1) := List.drop_eq_getElem_cons hks
    rw [hl, hd] at h
    simp only [awH, hkn, if_true] at h
    obtain ⟨d, v, A, Hn, kl, hq, hdep, hfr, hkl, hneed, h⟩ := h
    obtain ⟨T, h1, hAs, h2, h3⟩ := awH_trace hn m (k + 1) _ _ (As ++ [A]) (by omega) hkn (by simp [hA]) rfl h
    have hAk : T.AA k = A := hAs k A (by rw [List.getElem?_append_right (by omega)]; simp [hA])
    refine ⟨⟨fun i => if i = k then s else T.sA i, fun i => if i = k then d else T.dA i, fun i => if i = k then v else T.vA i, T.AA⟩, by simp, fun j B hj => hAs j B (by rw [List.getElem?_append_left (by rw [List.getElem?_eq_some_iff] at hj; exact hj.1)]; exact hj), ⟨fun i hi hi' => ?_⟩, ?_⟩
    · by_cases e : i = k
      · subst e
        refine ⟨ops.toList[i], Hn, kl, by rw [← Array.getElem?_toList, List.getElem?_eq_getElem hks], ?_, hdep, ?_, fun l hl => ?_, fun l ob hl => ?_, ?_⟩
        · simpa [hAk] using hq
        · simpa [hAk] using hfr
        · obtain ⟨g1, g2, g3⟩ := hkl l hl
          refine ⟨by rw [hAk]; exact g1, g2, fun j hj => ?_⟩
          have hjA : j < As.length := by omega
          rw [hAs j As[j] (by rw [List.getElem?_append_left hjA, List.getElem?_eq_getElem hjA])]
          exact g3 j _ (List.getElem?_eq_getElem hjA)
        · rcases hneed l ob hl with g | ⟨g, g'⟩ | ⟨j, Aj, g1, g2, g3⟩
          · exact .inl g
          · exact .inr (.inl ⟨g, by simpa using g'⟩)
          · have hji : j < i := by have := (List.getElem?_eq_some_iff.1 g1).1; omega
            exact .inr (.inr ⟨j, hji, g2, by rw [hAs j Aj (by rw [List.getElem?_append_left (by omega)]; exact g1)]; exact g3⟩)
        · have : i + 1 ≠ i := by omega
          simp only [this, if_false, if_true, hAk]
          exact h1
      · have e2 : i + 1 ≠ k := by omega
        simp only [e, e2, if_false]
        exact h2.step i (by omega) hi'
    · have : n ≠ k := by omega
      simp only [this, if_false]
      exact h3

section
variable {P : Program} {X : Ctx} {c : Cfg} {ops : Array Oper} {n : Nat} {T : Trace}

theorem Rel.same {s s' : FS} {a : Act} {w : World} (h : Rel X c s a w) (hg : ∀ t, s'.get t = s.get t) (hH : s'.H = s.H) (hvl : s'.vars.length = s.vars.length) : Rel X c s' a w := by
  obtain ⟨hN, F, m, h1, h2, hR⟩ := h
  exact ⟨hN, F, m, h1, h2, { hR with
    vsz := by rw [hvl]; exact hR.vsz
    val := fun t => by rw [hg t, hH]; exact hR.val t
    heap := by rw [hH]; exact hR.heap
    own := by rw [hH]; exact hR.own
    ext := by rw [hH]; exact hR.ext }⟩

theorem TraceOk.gets {H0 : Heap} (h : TraceOk P c ops n H0 0 T) (hinj : ∀ i j, i < n → j < n → T.dA i = T.dA j → i = j) : ∀ i, i ≤ n → (∀ j, j < i → (T.sA i).get (T.dA j) = T.vA j) ∧ (∀ t, (∀ j, j < i → T.dA j ≠ t) → (T.sA i).get t = (T.sA 0).get t) ∧
    (T.sA i).ix = (T.sA 0).ix ∧ (T.sA i).vars.length = (T.sA 0).vars.length ∧ (∀ j, j < i → ∀ l ob, T.AA j l = some ob → (T.sA i).H l = some ob) ∧ (∀ l, (∀ j, j < i → T.AA j l = none) → (T.sA i).H l = (T.sA 0).H l) := by
  intro i
  induction i with
  | zero => exact fun _ => ⟨fun j hj => by omega, fun _ _ => rfl, rfl, rfl, fun j hj => by omega, fun _ _ => rfl⟩
  | succ i ih =>
    intro hi
    obtain ⟨h1, h2, h3, h4, h5, h6⟩ := ih (by omega)
    obtain ⟨o, Hn, kl, _, _, _, hfr, hkl, _, e⟩ := h.step i (Nat.zero_le _) (by omega)
    rw [e]
    refine ⟨fun j hj => ?_, fun t ht => ?_, by rw [ix_put]; exact h3, by rw [vars_put]; exact h4, fun j hj l ob hl => ?_, fun l hl => ?_⟩
    · rw [get_put]
      by_cases ej : j = i
      · subst ej; simp
      · rw [if_neg fun e' => ej (hinj j i (by omega) (by omega) e')]
        exact h1 j (by omega)
    · rw [get_put, if_neg fun e' => ht i (by omega) e'.symm]
      exact h2 t fun j hj => ht j (by omega)
    · rw [H_put]
      by_cases ej : j = i
      · subst ej; simp [ext, hl]
      · have hH := h5 j (by omega) l ob hl
        have hn' : T.AA i l = none := by
          cases hx : T.AA i l with
          | none => rfl
          | some o' =>
            rcases hfr l (by rw [hx]; simp) with hk | this
            · have := (hkl l hk).2.2 j (by omega); rw [hl] at this; cases this
            · rw [hH] at this; cases this
        simp only [ext, hn']
        exact hH
    · rw [H_put]
      simp only [ext, hl i (by omega)]
      exact h6 l fun j hj => hl j (by omega)

/-- the heads' new names are apart -/
theorem TraceOk.apart {H0 : Heap} (h : TraceOk P c ops n H0 0 T) (hsub : HSub H0 (T.sA 0).H) (hinj : ∀ i j, i < n → j < n → T.dA i = T.dA j → i = j) {i : Nat} (hi : i < n) {l : Loc} (hl : T.AA i l ≠ none) : H0 l = none ∧ ∀ j, j < n → j ≠ i → T.AA j l = none := by
  obtain ⟨_, _, _, _, h5, h6⟩ := h.gets hinj i (Nat.le_of_lt hi)
  obtain ⟨o, Hn, kl, _, _, _, hfr, hkl, _, _⟩ := h.step i (Nat.zero_le _) hi
  have hlow : ∀ j, j < i → T.AA j l = none := fun j hj => by
    rcases hfr l hl with hk | hno
    · exact (hkl l hk).2.2 j hj
    · cases hx : T.AA j l with
      | none => rfl
      | some o' => have := h5 j hj l o' hx; rw [hno] at this; cases this
  refine ⟨?_, fun j hj hne => ?_⟩
  · rcases hfr l hl with hk | hno
    · exact (hkl l hk).2.1
    · rw [h6 l hlow] at hno
      cases hx : H0 l with
      | none => rfl
      | some o' => have := hsub l o' hx; rw [hno] at this; cases this
  · rcases Nat.lt_or_ge j i with h' | h'
    · exact hlow j h'
    · have hij : i < j := by omega
      obtain ⟨_, _, _, _, k5, _⟩ := h.gets hinj j (Nat.le_of_lt hj)
      obtain ⟨o2, Hn2, kl2, _, _, _, hfr2, hkl2, _, _⟩ := h.step j (Nat.zero_le _) hj
      cases hx : T.AA j l with
      | none => rfl
      | some o' =>
        obtain ⟨oi, hoi⟩ := Option.ne_none_iff_exists'.1 hl
        rcases hfr2 l (by rw [hx]; simp) with hk | this
        · have := (hkl2 l hk).2.2 i hij; rw [hoi] at this; cases this
        · rw [k5 i hij l oi hoi] at this; cases this

structure Agree (n : Nat) (T : Trace) (listed : Array Bool) (s : FS) : Prop where
  inS : ∀ j, j < n → listed.getD j false = true → s.get (T.dA j) = T.vA j
  out : ∀ t, (∀ j, j < n → listed.getD j false = true → T.dA j ≠ t) → s.get t = (T.sA 0).get t
  ix : s.ix = (T.sA 0).ix
  vl : s.vars.length = (T.sA 0).vars.length
  hA : ∀ j, j < n → listed.getD j false = true → ∀ l ob, T.AA j l = some ob → s.H l = some ob
  hO : ∀ l, (∀ j, j < n → listed.getD j false = true → T.AA j l = none) → s.H l = (T.sA 0).H l

theorem draw_run {Q : Exit → Act → World → Prop} {H0 : Heap} (hT : TraceOk P c ops n H0 0 T) (hsub : HSub H0 (T.sA 0).H) (hinj : ∀ i j, i < n → j < n → T.dA i = T.dA j → i = j) (hn : n ≤ ops.size) (hsc : n = ops.size ∨ (Region.sinkB .any ops n = true ∧ Region.chainB .any ops n = true))
    (hseq : seqFull ops n = true) (hback : backB ops = true) (htail : ∀ a w, Rel X c (T.sA n) a w → wpList P ops Q (ops.toList.drop n) a w) :
    ∀ (m : Nat) (listed : Array Bool) (s : FS) (a : Act) (w : World), ((List.range n).filter fun i => !listed.getD i true).length = m → HeadInv .any ops n listed → Agree n T listed s → Rel X c s a w →
      wpAny P .any ops Q (m + (ops.size - n)) listed a w := by
  have apart := fun {i} hi {l} hl => hT.apart hsub hinj (i := i) hi (l := l) hl
  intro m
  induction m with
  | zero =>
    intro listed s a w hm inv hag hR
    have hall : ∀ i, i < n → listed.getD i true = true := fun i hi => by
      have := List.eq_nil_of_length_eq_zero hm
      rw [List.filter_eq_nil_iff] at this
      simpa using this i (List.mem_range.2 hi)
    have hlist : listed = (Array.range ops.size).map fun i => decide (i < n) := by
      apply Array.ext
      · simp [inv.size]
      · intro i h1 h2
        have hio : i < ops.size := by rw [← inv.size]; exact h1
        simp only [Array.getElem_map, Array.getElem_range]
        by_cases hin : i < n
        · have := hall i hin
          simp [Array.getD, h1] at this
          simp [hin, this]
        · have := inv.tail i (by omega) hio
          simp [Array.getD, h1] at this
          simp [hin, this]
    have hR' : Rel X c (T.sA n) a w := by
      obtain ⟨g1, g2, g3, g4, g5, g6⟩ := hT.gets hinj n (Nat.le_refl _)
      have hf : ∀ j, j < n → listed.getD j false = true := fun j hj => by
        have := hall j hj
        have hjl : j < listed.size := by rw [inv.size]; omega
        simp [Array.getD, hjl] at this ⊢; exact this
      refine hR.same (fun t => ?_) ?_ (g4.trans hag.vl.symm)
      · by_cases ht : ∃ j, j < n ∧ T.dA j = t
        · obtain ⟨j, hj, rfl⟩ := ht
          rw [g1 j hj, hag.inS j hj (hf j hj)]
        · have ht' : ∀ j, j < n → T.dA j ≠ t := fun j hj e => ht ⟨j, hj, e⟩
          rw [g2 t ht', hag.out t fun j hj _ => ht' j hj]
      · funext l
        by_cases hl : ∃ j, j < n ∧ T.AA j l ≠ none
        · obtain ⟨j, hj, hne⟩ := hl
          obtain ⟨ob, hob⟩ := Option.ne_none_iff_exists'.1 hne
          rw [g5 j hj l ob hob, hag.hA j hj (hf j hj) l ob hob]
        · have hl' : ∀ j, j < n → T.AA j l = none := fun j hj => by
            cases hx : T.AA j l with
            | none => rfl
            | some o' => exact absurd ⟨j, hj, by rw [hx]; simp⟩ hl
          rw [g6 l hl', hag.hO l fun j hj _ => hl' j hj]
    have hdl : (ops.toList.drop n).length = ops.size - n := by simp
    have := wpAny_of_seq (P := P) (md := .any) (Q' := Q) (ops.toList.drop n) n listed a w (fun j => by simp [List.getElem?_drop]) (by rw [hdl, hlist]; exact hseq) (htail a w hR')
    rw [hdl] at this
    simpa using this
  | succ m ih =>
    intro listed s a w hm inv hag hR
    have hex : ∃ i, i < n ∧ listed.getD i true = false := by
      cases hl : (List.range n).filter fun i => !listed.getD i true with
      | nil => rw [hl] at hm; simp at hm
      | cons x xs =>
        have : x ∈ (List.range n).filter fun i => !listed.getD i true := by rw [hl]; simp
        rw [List.mem_filter, List.mem_range] at this
        exact ⟨x, this.1, by simpa using this.2⟩
    rw [show m + 1 + (ops.size - n) = (m + (ops.size - n)) + 1 by omega]
    refine ⟨fun hnil => ?_, fun i hi => ?_⟩
    · exfalso
      have least : ∀ k i, i ≤ k → i < n → listed.getD i true = false → False := by
        intro k
        induction k using Nat.strongRecOn with
        | _ k ihk =>
          intro i hik hin hun
          have hio : i < ops.size := by omega
          have hoi : ops[i]? = some ops[i] := Array.getElem?_eq_getElem hio
          have hnr : i ∉ Region.ready .any ops listed := by rw [hnil]; simp
          rw [mem_ready] at hnr
          have : ∃ e ∈ (ops[i]).after, Region.binds .any e = true ∧ listed.getD e.on false = false := by
            by_cases hh : ∃ e ∈ (ops[i]).after, Region.binds .any e = true ∧ listed.getD e.on false = false
            · exact hh
            · exfalso
              refine hnr ⟨hun, _, hoi, fun e he hb => ?_⟩
              by_cases h' : listed.getD e.on false = true
              · exact h'
              · exact absurd ⟨e, he, hb, by simpa using h'⟩ hh
          obtain ⟨e, he, hb, hl⟩ := this
          have hbk := List.all_eq_true.1 hback i (List.mem_range.2 hio)
          simp only [hoi] at hbk
          have hlt := (Array.all_eq_true'.1 hbk) e he
          simp only [hb, Bool.not_true, Bool.false_or, decide_eq_true_eq] at hlt
          exact ihk e.on (by omega) e.on (Nat.le_refl _) (by omega) (getD_in (by rw [inv.size]; omega) hl)
      obtain ⟨i, hi, hun⟩ := hex
      exact least i i (Nat.le_refl _) hi hun
    · have hin : i < n := by
        rcases Nat.lt_or_ge i n with h | h
        · exact h
        · obtain ⟨j, hj, hun⟩ := hex
          rcases hsc with e | ⟨hs, hc⟩
          · obtain ⟨_, oi, hoi, _⟩ := mem_ready.1 hi
            have := (Array.getElem?_eq_some_iff.1 hoi).1
            omega
          · by_cases e : n = ops.size
            · obtain ⟨_, oi, hoi, _⟩ := mem_ready.1 hi
              have := (Array.getElem?_eq_some_iff.1 hoi).1
              omega
            · exact absurd hi (tail_waits hs hc (by omega) inv _ j rfl hj hun i h)
      obtain ⟨hun, oi, hoi, hall⟩ := mem_ready.1 hi
      obtain ⟨o, Hn, kl, ho, hq, hdep, hfr, hkl, hneed, hst⟩ := hT.step i (Nat.zero_le _) hin
      obtain rfl : o = oi := Option.some.inj (ho.symm.trans hoi)
      obtain ⟨g1, g2, g3, g4, g5, g6⟩ := hT.gets hinj i (Nat.le_of_lt hin)
      have hdst : ∀ j, j < n → (ops[j]?).bind (·.dst) = some (T.dA j) := fun j hj => by
        obtain ⟨o', _, _, ho', hq', _⟩ := hT.step j (Nat.zero_le _) hj
        rw [ho', Option.bind_some]
        exact hq'.1
      have hunf : listed.getD i false = false := getD_both hun
      have hwait : ∀ j, waitsB o j = true → listed.getD j false = true := fun j hj => by
        obtain ⟨e, he, hb⟩ := Array.any_eq_true'.1 hj
        simp only [Bool.and_eq_true, beq_iff_eq] at hb
        have := hall e he hb.1
        rw [hb.2] at this; exact this
      have hij : ∀ j, j < n → listed.getD j false = true → j ≠ i := fun j _ hl e => by rw [e] at hl; rw [hl] at hunf; cases hunf
      unfold wpOp
      simp only [ho]
      refine hq.2.2 X s a w _ Q (fun t ht => ?_) (hag.ix.trans g3.symm) (fun l ob hl => ?_) (fun l hl hnk => ?_) hR fun u w' hR' => ih _ ({ s with H := ext s.H (T.AA i) }.put (T.dA i) (T.vA i)) _ w' ?_ (inv.set hi hin) ?_ hR'
      · show s.get t = (T.sA i).get t
        by_cases hh : ∃ j, j < n ∧ T.dA j = t
        · obtain ⟨j, hj, rfl⟩ := hh
          have h1 := List.all_eq_true.1 hdep _ ht
          have h2 := List.all_eq_true.1 h1 j (List.mem_range.2 hj)
          rw [hdst j hj] at h2
          simp only [beq_self_eq_true, Bool.not_true, Bool.false_or, Bool.and_eq_true, decide_eq_true_eq] at h2
          rw [hag.inS j hj (hwait j h2.2), g1 j h2.1]
        · have hh' : ∀ j, j < n → T.dA j ≠ t := fun j hj e => hh ⟨j, hj, e⟩
          rw [hag.out t fun j hj _ => hh' j hj, g2 t fun j hj => hh' j (by omega)]
      · rcases hneed l ob hl with h0 | ⟨hk, h0⟩ | ⟨j, hji, hw, hA⟩
        · rw [hag.hO l fun j hj _ => ?_]
          · exact hsub l ob h0
          · cases hx : T.AA j l with
            | none => rfl
            | some o' => have := (apart hj (l := l) (by rw [hx]; simp)).1; rw [h0] at this; cases this
        · obtain ⟨q1, _, q3⟩ := hkl l hk
          have := apart hin q1
          rw [hag.hO l fun j hj hlj => this.2 j hj (hij j hj hlj), ← g6 l q3]
          exact h0
        · exact hag.hA j (by omega) (hwait j hw) l ob hA
      · have := apart hin hl
        rw [hag.hO l fun j hj hlj => this.2 j hj (hij j hj hlj), ← g6 l fun j hj => this.2 j (by omega) (by omega)]
        exact (hfr l hl).resolve_left hnk
      · have hperm : ((List.range n).filter fun j => !listed.getD j true).length = ((List.range n).filter fun j => !(listed.setIfInBounds i true).getD j true).length + 1 := by
          have key : ∀ (l : List Nat), l.Nodup → i ∈ l → (l.filter fun j => !listed.getD j true).length = (l.filter fun j => !(listed.setIfInBounds i true).getD j true).length + 1 := by
            intro l
            induction l with
            | nil => intro _ h; cases h
            | cons x l ihl =>
              intro hnd hmem
              rw [List.nodup_cons] at hnd
              rw [List.filter_cons, List.filter_cons]
              by_cases hx : x = i
              · subst hx
                have e1 : (listed.setIfInBounds x true).getD x true = true := by
                  rcases Nat.lt_or_ge x listed.size with h | h <;> simp [Array.getD, h]
                simp only [hun, e1, Bool.not_false, Bool.not_true, if_true, List.length_cons]
                have : (l.filter fun j => !listed.getD j true) = l.filter fun j => !(listed.setIfInBounds x true).getD j true := by
                  apply List.filter_congr
                  intro j hj
                  have hne : x ≠ j := fun e => hnd.1 (e ▸ hj)
                  rw [getD_set_ne true hne]
                rw [this]
                simp
              · have hmem' : i ∈ l := by
                  rcases List.mem_cons.1 hmem with h | h
                  · exact absurd h.symm hx
                  · exact h
                rw [getD_set_ne true (Ne.symm hx)]
                have := ihl hnd.2 hmem'
                split
                · simp only [List.length_cons]; omega
                · exact this
          exact key _ List.nodup_range (List.mem_range.2 hin)
        omega
      · have hii : (listed.setIfInBounds i true).getD i false = true := by
          have hil : i < listed.size := by rw [inv.size]; omega
          simp [Array.getD, hil]
        refine ⟨fun j hj hl => ?_, fun t ht => ?_, by rw [ix_put]; exact hag.ix, by rw [vars_put]; exact hag.vl, fun j hj hl l ob hA => ?_, fun l hA => ?_⟩
        · rw [get_put]
          by_cases ej : j = i
          · subst ej; simp
          · rw [if_neg fun e => ej (hinj j i hj hin e)]
            rw [getD_set_ne false (Ne.symm ej)] at hl
            exact hag.inS j hj hl
        · rw [get_put, if_neg fun e => ht i hin hii e.symm]
          exact hag.out t fun j hj hl => ht j hj (getD_set_true hl)
        · rw [H_put]
          by_cases ej : j = i
          · subst ej; simp [ext, hA]
          · rw [getD_set_ne false (Ne.symm ej)] at hl
            have := (apart hj (l := l) (by rw [hA]; simp)).2 i hin (Ne.symm ej)
            simp only [ext, this]
            exact hag.hA j hj hl l ob hA
        · rw [H_put]
          simp only [ext, hA i hin hii]
          exact hag.hO l fun j hj hl => hA j hj (getD_set_true hl)

theorem trace_inj {H0 : Heap} (hT : TraceOk P c ops n H0 0 T) (hn : n ≤ ops.size) (hnd : ((ops.toList.take n).filterMap (·.dst)).Nodup) : ∀ i j, i < n → j < n → T.dA i = T.dA j → i = j := by
  have hdst : ∀ j, j < n → (ops[j]?).bind (·.dst) = some (T.dA j) := fun j hj => by
    obtain ⟨o', _, _, ho', hq', _⟩ := hT.step j (Nat.zero_le _) hj
    rw [ho', Option.bind_some]
    exact hq'.1
  have hlist : (ops.toList.take n).filterMap (·.dst) = (List.range n).map T.dA := by
    apply List.ext_getElem?
    have hall : ∀ (m : Nat), m ≤ n → (ops.toList.take m).filterMap (·.dst) = (List.range m).map T.dA := by
      intro m
      induction m with
      | zero => intro _; simp
      | succ m ih =>
        intro hm
        have hml : m < ops.toList.length := by simp; omega
        rw [List.take_succ_eq_append_getElem hml, List.filterMap_append, ih (by omega), List.range_succ, List.map_append]
        have := hdst m (by omega)
        rw [← Array.getElem?_toList, List.getElem?_eq_getElem hml, Option.bind_some] at this
        rw [List.filterMap_cons_some this]
        rfl
    intro i
    rw [hall n (Nat.le_refl _)]
  rw [hlist] at hnd
  intro i j hi hj e
  have := List.pairwise_iff_getElem.1 (List.nodup_iff_pairwise_ne.1 hnd)
  rcases Nat.lt_trichotomy i j with h | h | h
  · exact absurd (by rw [List.getElem_map, List.getElem_map, List.getElem_range, List.getElem_range]; exact e) (this i j (by simpa using hi) (by simpa using hj) h)
  · exact h
  · exact absurd (by rw [List.getElem_map, List.getElem_map, List.getElem_range, List.getElem_range]; exact e.symm) (this j i (by simpa using hj) (by simpa using hi) h)

theorem awDraw_ok {K : FS → Prop} {Q : Exit → Act → World → Prop} {id : Nat} {s : FS} {a : Act} {w : World} (hK : ∀ s a w, Rel X c s a w → K s → Q .normal a w) (h : Rel X c s a w) (hs : awDraw P c ops K s) : (Code.region id ops true).wp P Q a w := by
  obtain ⟨hm, n, H0, hB, hsub, hH⟩ := hs
  have hdrew : Rel X c s a { w with drawn := w.drawn + 1 } := by
    obtain ⟨hN, F, m, h1, h2, hR⟩ := h
    exact ⟨hN, F, m, h1, h2, hR.world (Nat.le_refl _) (fun _ _ => rfl) rfl rfl rfl⟩
  refine wp_region_any hm ?_
  simp only [drawB, Bool.and_eq_true, Bool.or_eq_true, beq_iff_eq, decide_eq_true_eq] at hB
  obtain ⟨hn, hsc, hsq, hbk, hnd⟩ := hB
  obtain ⟨T, hT0, _, hT, htail⟩ := awH_trace hn n 0 _ s [] (by omega) (Nat.zero_le _) rfl (by simp) hH
  have inv0 : HeadInv .any ops n (Array.replicate ops.size false) :=
    ⟨by simp, fun j oj _ hl => (by rw [getD_replicate_false] at hl; cases hl), fun t _ ht => getD_in (by simpa using ht) (getD_replicate_false _ _)⟩
  have hag : Agree n T (Array.replicate ops.size false) s := ⟨fun j _ hl => (by rw [getD_replicate_false] at hl; cases hl), fun t _ => by rw [hT0], by rw [hT0], by rw [hT0], fun j _ hl => (by rw [getD_replicate_false] at hl; cases hl), fun l _ => by rw [hT0]⟩
  have hcount : ((List.range n).filter fun i => !(Array.replicate ops.size false).getD i true).length = n := by
    rw [List.filter_eq_self.2, List.length_range]
    intro i hi
    rw [List.mem_range] at hi
    have hio : i < ops.size := by omega
    simp [Array.getD, hio]
  have := draw_run (Q := Q) hT (by rw [hT0]; exact hsub) (trace_inj hT hn hnd) hn hsc hsq hbk (fun a w h' => wOps_ok hK _ _ a w h' htail) n _ s a _ hcount inv0 hag hdrew
  rw [show n + (ops.size - n) = ops.size by omega] at this
  exact this
end
end Go.FM
