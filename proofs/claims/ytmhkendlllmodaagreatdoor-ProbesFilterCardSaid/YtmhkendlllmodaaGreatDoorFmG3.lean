/- One of the texts of a proof by an abstract machine over the model. -/
import Derived.Test.YtmhkendlllmodaaGreatDoorFmG2
import Derived.Deep.AppendSrc
import Derived.Deep.Upon
import Derived.MapKept
set_option linter.unusedSimpArgs false
set_option linter.unusedVariables false
namespace Go.FM
open Go

section
variable {P : Program} {X : Ctx} {c : Cfg} {w w' : World} {F F' : Nat → Prop} {U : Loc → Prop} {m m' : Loc → Nat × Nat} {s s' : FS} {a a' : Act} {o : Oper}

/-! ### new variables; stores -/
def wAlloc (P : Program) (H : Heap) (nm : Loc) (t : TypeId) : Option (List (Loc × FO) × FV) := match zeroC P t with
  | some cs => if (H nm).isNone then (if cs.isEmpty then some ([(nm, .cells t 0 [])], .ptr nm 0 0 0) else some ([(nm, .cells t cs.length [cs])], .ptr nm cs.length 0 0)) else none
  | none => none
def wBox (H : Heap) (nm : Loc) (t : TypeId) (x : FV) : Option (List (Loc × FO) × FV) :=
  if (x.storable && !x.cellsL.isEmpty) && (H nm).isNone then some ([(nm, .cells t x.cellsL.length [x.cellsL])], .ptr nm x.cellsL.length 0 0) else none
def wStore (P : Program) (H : Heap) (t : TypeId) (ad x : FV) : Option (List (Loc × FO) × FV) := match szT P t, ad with
  | some 0, .ptr .. => match x with
    | .agg [] => some ([], .undef)
    | _ => none
  | some n, .ptr l sz i off => match H l with
    | some (.cells T sz' xs) => match xs[i]? with
      | some r => if decide (sz' = sz) && (decide (x.cellsL.length = n) && (x.storable && decide (off + n ≤ r.length))) then
          some ([(l, .cells T sz (xs.modify i fun r => r.take off ++ x.cellsL ++ r.drop (off + x.cellsL.length)))], .undef) else none
      | none => none
    | _ => none
  | _, _ => none
theorem new_w (h : RelX X F m s a w) {l : Loc} {cs : List FV} {v : Value} {t : TypeId} (hl : s.H l = none) (hcs : RFs w F (fun k => s.H k ≠ none) m cs v.cells.toList) (h0 : cs ≠ []) :
    ∃ m', RelX X F m' { s with H := upds s.H [(l, .cells t cs.length [cs])] } a (w.alloc (.cells v.cells t (0, 0))) ∧ RF (w.alloc (.cells v.cells t (0, 0))) F (fun k => upds s.H [(l, .cells t cs.length [cs])] k ≠ none) m' (.ptr l cs.length 0 0) (.pointer (some ⟨w.heap.size, 0, none⟩)) := by
  have hlen := hcs.length
  have hsz : v.cells.size = cs.length := by rw [hlen]; simp
  have hpos : 0 < cs.length := List.length_pos_iff.2 h0
  refine ⟨_, h.alloc (T := t) (cells := v.cells) (rows := [cs]) (sz := cs.length) hl (by
    simp only [List.flatten_cons, List.flatten_nil, List.append_nil, List.length_cons, List.length_nil, Nat.zero_add, Nat.one_mul]
    rw [List.take_of_length_le (by simp [hsz])]
    exact hcs) (by simp) (by simp [hsz]) (by omega), ?_⟩
  have := RF.ptr (w := w.alloc (.cells v.cells t (0, 0))) (F := F) (U := fun k => upds s.H [(l, .cells t cs.length [cs])] k ≠ none) (m := fun k => if k = l then (w.heap.size, v.cells.size) else m k) l cs.length 0 0 (by simp [upds, upd])
  simpa using this
theorem wAlloc_ok {nm : Loc} {t : TypeId} {us : List (Loc × FO)} {v : FV} (hs : wAlloc P s.H nm t = some (us, v)) (ho : o.op = .alloc t) : WOk P s o us v := by
  intro X F m a w h
  unfold wAlloc at hs
  split at hs
  case h_2 => cases hs
  rename_i cs hz
  split at hs
  case isFalse => cases hs
  rename_i hc
  simp only [Option.isNone_iff_eq_none] at hc
  obtain ⟨z, hz1, hz2, hz3⟩ := zeroC_ok (w := w) (F := F) (U := fun k => s.H k ≠ none) (m := m) hz
  split at hs
  · rename_i he
    simp only [Option.some.injEq, Prod.mk.injEq] at hs
    obtain ⟨rfl, rfl⟩ := hs
    have hcs : cs = [] := by simpa using he
    have hz0 : z.cells.size = 0 := by rw [← hz3, hcs]; rfl
    have hold : ∀ b, b < w.heap.size → (w.alloc (.cells z.cells t (0, 0))).heap[b]? = w.heap[b]? := fun b hb => by
      show (w.heap.push _)[b]? = _
      rw [Array.getElem?_push, if_neg (by omega)]
    have hR := h.fresh (l := nm) (o := .cells t 0 []) (n := 0) (w' := w.alloc (.cells z.cells t (0, 0))) hc (by show w.heap.size < (w.heap.push _).size; simp) hold rfl rfl rfl (.inl ⟨rfl, by simp⟩)
    refine ⟨_, .pointer (some ⟨w.heap.size, 0, none⟩), _, .inl (by simp [execOp, ho, Instr.alloc, hz1, newVar_run]), hR, ?_⟩
    have := RF.ptr (w := w.alloc (.cells z.cells t (0, 0))) (F := F) (U := fun k => upds s.H [(nm, .cells t 0 [])] k ≠ none) (m := fun k => if k = nm then (w.heap.size, 0) else m k) nm 0 0 0 (by simp [upds, upd])
    simpa using this
  · rename_i he
    simp only [Option.some.injEq, Prod.mk.injEq] at hs
    obtain ⟨rfl, rfl⟩ := hs
    obtain ⟨m', h1, h2⟩ := new_w (t := t) h hc hz2 (by simpa using he)
    exact ⟨m', _, _, .inl (by simp [execOp, ho, Instr.alloc, hz1, newVar_run]), h1, h2⟩
theorem wBox_ok {nm : Loc} {t : TypeId} {x : Operand} {us : List (Loc × FO)} {v : FV} (hs : wBox s.H nm t (rv s x) = some (us, v)) (ho : o.op = .box t x) : WOk P s o us v := by
  intro X F m a w h
  unfold wBox at hs
  split at hs
  case isFalse => cases hs
  rename_i hc
  simp only [Bool.and_eq_true, Bool.not_eq_true', List.isEmpty_eq_false_iff, Option.isNone_iff_eq_none] at hc
  simp only [Option.some.injEq, Prod.mk.injEq] at hs
  obtain ⟨rfl, rfl⟩ := hs
  obtain ⟨g1, g2⟩ := (rv_ok h x).cells hc.1.1
  obtain ⟨m', h1, h2⟩ := new_w (t := t) h hc.2 g1 hc.1.2
  exact ⟨m', _, _, .inl (by simp [execOp, ho, Instr.box, newVar_run]), h1, h2⟩
theorem wStore_ok {t : TypeId} {ad x : Operand} {us : List (Loc × FO)} {v : FV} (hs : wStore P s.H t (rv s ad) (rv s x) = some (us, v)) (ho : o.op = .store t ad x) : WOk P s o us v := by
  intro X F m a w h
  unfold wStore at hs
  split at hs
  case h_3 => cases hs
  case h_1 =>
    rename_i l sz i off hz hp
    split at hs
    case h_2 => cases hs
    rename_i hx
    simp only [Option.some.injEq, Prod.mk.injEq] at hs
    obtain ⟨rfl, rfl⟩ := hs
    have hxv := rv_ok h x
    rw [hx] at hxv
    have had := rv_ok h ad
    rw [hp] at had
    generalize hxe : a.eval x = vx at hxv
    generalize hva : a.eval ad = va at had
    cases hxv with
    | agg _ vs hvs =>
    cases hvs
    cases had
    exact ⟨m, undef, w, .inr ⟨by simp [execOp, ho, hva, hxe, Instr.storeAt, Instr.sureAddr, storeVar, run_szT hz, Value.cells, storeCells], rfl⟩, h, .undef _⟩
  rename_i n l sz i off _ hz hp
  split at hs
  case h_2 => cases hs
  rename_i T sz' xs hl
  split at hs
  case h_2 => cases hs
  rename_i r hr
  split at hs
  case isFalse => cases hs
  rename_i hc
  simp only [Bool.and_eq_true, decide_eq_true_eq] at hc
  obtain ⟨rfl, hn, hst, hle⟩ := hc
  simp only [Option.some.injEq, Prod.mk.injEq] at hs
  obtain ⟨rfl, rfl⟩ := hs
  obtain ⟨g1, g2⟩ := (rv_ok h x).cells hst
  have had := rv_ok h ad
  rw [hp] at had
  generalize hva : a.eval ad = va at had
  cases had
  have hlen := g1.length
  obtain ⟨w', k1, k2⟩ := h.store (P := P) (off := off) hl hr (by omega) g1 (g1.one g2)
  have hsz : (a.eval x).cells.size = n := by rw [← hn, hlen]; simp
  exact ⟨m, undef, w', .inr ⟨by simp [execOp, ho, hva, Instr.storeAt, Instr.sureAddr, storeVar, run_szT hz, hsz, k1], rfl⟩, k2, .undef _⟩

/-! ### make -/
def wMakeS (P : Program) (H : Heap) (nm : Loc) (t : TypeId) (x y : FV) : Option (List (Loc × FO) × FV) := match slT P t, x, y with
  | some (e, sz), .int _ len, .int _ cap => match zeroC P e, byT P e with
    | some z, some by_ => if ((decide (z.length = sz) && decide (0 < sz)) && ((decide (0 ≤ len) && decide (len ≤ cap)) && (decide (cap ≤ 4611686018427387904) && decide ((by_ : Int) * cap ≤ 281474976710656)))) && (H nm).isNone then
        some ([(nm, .cells e sz (List.replicate cap.toNat z))], .sl nm sz 0 len.toNat) else none
    | _, _ => none
  | _, _, _ => none
theorem wMakeS_ok {nm : Loc} {t : TypeId} {x y : Operand} {us : List (Loc × FO)} {v : FV} (hs : wMakeS P s.H nm t (rv s x) (rv s y) = some (us, v)) (ho : o.op = .makeSlice t x y) : WOk P s o us v := by
  intro X F m a w h
  unfold wMakeS at hs
  split at hs
  case h_2 => cases hs
  rename_i e sz k1 len k2 cap ht hx hy
  obtain ⟨hu, hz⟩ := slT_some ht
  split at hs
  case h_2 => cases hs
  rename_i z by_ hzc hby
  obtain ⟨i, hi, rfl⟩ := byT_some hby
  split at hs
  case isFalse => cases hs
  rename_i hc
  simp only [Bool.and_eq_true, decide_eq_true_eq, Option.isNone_iff_eq_none] at hc
  obtain ⟨⟨⟨hzl, h0⟩, ⟨hl0, hlc⟩, hc62, hb⟩, hnm⟩ := hc
  simp only [Option.some.injEq, Prod.mk.injEq] at hs
  obtain ⟨rfl, rfl⟩ := hs
  have hxv := rv_ok h x
  have hyv := rv_ok h y
  rw [hx] at hxv
  rw [hy] at hyv
  generalize hxe : a.eval x = vx at hxv
  generalize hye : a.eval y = vy at hyv
  cases hxv; cases hyv
  obtain ⟨zv, g1, g2, g3⟩ := zeroC_ok (w := w) (F := F) (U := fun k => s.H k ≠ none) (m := m) hzc
  have hzs : zv.cells.size = sz := by omega
  have hbase := zero_rep (len := cap.toNat) h0 hzl hzs g2
  obtain ⟨m', h1, h2⟩ := row_val h (T := e) (cells := (Array.range (cap.toNat * sz)).map fun k => zv.cells[k % zv.cells.size]!) (rows := List.replicate cap.toNat z) (sz := sz) (n := cap.toNat) hnm hbase
    (fun x hx => by rw [List.eq_of_mem_replicate hx]; exact hzl) (by simp) (by simp) h0 len.toNat (by omega)
  have hw1 : IntKind.i64.wrap len = len := by rw [IntKind.wrap_i64]; omega
  have hw2 : IntKind.i64.wrap cap = cap := by rw [IntKind.wrap_i64]; omega
  have hrun : (Instr.makeSlice t (.int k1 len) (.int k2 cap)).run P w = .ok (.slice (some ⟨w.heap.size, 0, none⟩) len.toNat cap.toNat) (w.alloc (.cells ((Array.range (cap.toNat * sz)).map fun k => zv.cells[k % zv.cells.size]!) e (0, 0))) := by
    have c1 : ¬ cap < 0 := by omega
    have c2 : ¬ (281474976710656 < (i.bytes : Int) * cap) := by omega
    have c3 : ¬ len < 0 := by omega
    have c4 : ¬ cap < len := by omega
    by_cases hz0 : cap.toNat * sz = 0
    · have e2 : ∀ f : Nat → Value, (Array.range 0).map f = #[] := fun f => by simp
      simp only [hz0, e2]
      simp [Instr.makeSlice, run_underlying hu, asInt, asIntOf, hw1, hw2, typeInfo, hi, run_szT hz, hz0, c1, c2, c3, c4, newRow]
      rw [e2]
    · simp [Instr.makeSlice, run_underlying hu, asInt, asIntOf, hw1, hw2, typeInfo, hi, run_szT hz, hz0, c1, c2, c3, c4, g1, newRow]
  exact ⟨m', _, _, .inl (by simp only [execOp, ho, hxe, hye, Sem.run_bind, hrun]; rfl), h1, h2⟩

/-! ### maps, iterators -/
theorem RelX.obj (h : RelX X F m s a w) {l : Loc} {ob : Obj} {o : FO} {n : Nat} (hl : s.H l = none) (ho : OR (w.alloc ob) F (upd s.H l o) (fun k => if k = l then (w.heap.size, n) else m k) l o) :
    RelX X F (fun k => if k = l then (w.heap.size, n) else m k) { s with H := upd s.H l o } a (w.alloc ob) := by
  obtain ⟨_, h2⟩ := MapKept.heap_alloc w ob
  exact h.fresh hl (by show w.heap.size < (w.heap.push _).size; simp) h2 rfl rfl rfl ho
/-- a named block that is no row of cells turns -/
theorem RelX.turn (h : RelX X F m s a w) {l : Loc} {o0 o : FO} {ob0 ob : Obj} (hl : s.H l = some o0) (hne0 : o0 ≠ .dead) (h0 : (m l).2 ≠ 0) (hne : o ≠ .dead) (hob : w.heap[(m l).1]? = some ob0)
    (ho : ∀ w' : World, w'.heap[(m l).1]? = some ob → (∀ b, b ≠ (m l).1 → w'.heap[b]? = w.heap[b]?) → OR w' F (upd s.H l o) m l o) :
    RelX X F m { s with H := upd s.H l o } a { w with heap := w.heap.setIfInBounds (m l).1 ob } := by
  obtain ⟨g1, g2⟩ := MapKept.heap_set (o' := ob) hob
  exact h.write hl ⟨o0, hl, hne0, h0⟩ hne (by simp) (fun b _ hb => g2 b hb) rfl rfl rfl (ho _ g1 g2)
theorem run_getMap {l : Nat} {es : Array MapEntry} {clk : Nat} (h : w.heap[l]? = some (.map es clk)) : (getObj l).run P w = .ok (.map es clk) w := by simp [getObj, Sem.run, h]
theorem run_setMap {l : Nat} {es : Array MapEntry} {clk : Nat} (o : Obj) (h : w.heap[l]? = some (.map es clk)) : (setObj l o).run P w = .ok () { w with heap := w.heap.setIfInBounds l o } := by simp [setObj, Sem.run, h]
theorem run_getIter {l : Nat} {q : Option Nat} {since last : Nat} {seen : Array Nat} (h : w.heap[l]? = some (.mapIter q since seen last)) : (getObj l).run P w = .ok (.mapIter q since seen last) w := by simp [getObj, Sem.run, h]
theorem run_setIter {l : Nat} {q : Option Nat} {since last : Nat} {seen : Array Nat} (o : Obj) (h : w.heap[l]? = some (.mapIter q since seen last)) : (setObj l o).run P w = .ok () { w with heap := w.heap.setIfInBounds l o } := by simp [setObj, Sem.run, h]

def wMakeM (P : Program) (H : Heap) (nm : Loc) (r : Option FV) : Option (List (Loc × FO) × FV) := match r with
  | none => if (H nm).isNone then some ([(nm, .map [] 0)], .mp nm) else none
  | _ => none
theorem wMakeM_ok {nm : Loc} {t : TypeId} {r : Option Operand} {us : List (Loc × FO)} {v : FV} (hs : wMakeM P s.H nm (r.map (rv s)) = some (us, v)) (ho : o.op = .makeMap t r) : WOk P s o us v := by
  intro X F m a w h
  cases r with
  | some r => simp [wMakeM] at hs
  | none =>
  simp only [wMakeM, Option.map_none] at hs
  split at hs
  case isFalse => cases hs
  rename_i hc
  simp only [Option.isNone_iff_eq_none] at hc
  simp only [Option.some.injEq, Prod.mk.injEq] at hs
  obtain ⟨rfl, rfl⟩ := hs
  obtain ⟨g1, _⟩ := MapKept.heap_alloc w (.map #[] 0)
  refine ⟨_, .map (some w.heap.size), _, .inl (by simp [execOp, ho, Instr.makeMap]), h.obj (n := 1) (ob := .map #[] 0) (o := .map [] 0) hc ⟨by simp, #[], by simpa using g1, .nil⟩, ?_⟩
  have := RF.mp (w := w.alloc (.map #[] 0)) (F := F) (U := fun k => upds s.H [(nm, .map [] 0)] k ≠ none) (m := fun k => if k = nm then (w.heap.size, 1) else m k) nm (by simp [upds, upd])
  simpa using this

def wMapU (P : Program) (H : Heap) (t : TypeId) (x k v : FV) : Option (List (Loc × FO) × FV) := match mpT P t, x with
  | some (kt, _), .mp l => match H l with
    | some (.map es clk) => if keyOk P kt k then (match findA P kt k es 0 with
      | some (some (i, _)) => some ([(l, .map (es.modify i fun e => (k, v, e.2.2)) clk)], .undef)
      | some none => some ([(l, .map (es ++ [(k, v, clk)]) (clk + 1))], .undef)
      | none => none) else none
    | _ => none
  | _, _ => none
theorem REs.modify {es : List (FV × FV × Nat)} {xs : List MapEntry} (h : REs w F U m es xs) {k v : FV} {vk vv : Value} (hk : RF w F U m k vk) (hv : RF w F U m v vv) (i : Nat) :
    REs w F U m (es.modify i fun e => (k, v, e.2.2)) (xs.modify i fun e => { e with key := vk, val := vv }) := by
  induction h generalizing i with
  | nil => simpa using REs.nil
  | cons e x es xs h hs ih =>
    cases i with
    | zero => simpa using REs.cons (k, v, e.2.2) { x with key := vk, val := vv } _ _ ⟨hk, hv, h.born⟩ hs
    | succ i => simpa using REs.cons _ _ _ _ h (ih i)
theorem REs.get {es : List (FV × FV × Nat)} {xs : List MapEntry} (h : REs w F U m es xs) {i : Nat} {e : FV × FV × Nat} (he : es[i]? = some e) : ∃ x, xs[i]? = some x ∧ RE w F U m e x := by
  induction h generalizing i with
  | nil => simp at he
  | cons e' x es xs h hs ih =>
    cases i with
    | zero => simp at he; subst he; exact ⟨x, by simp, h⟩
    | succ i =>
      obtain ⟨y, g1, g2⟩ := ih (by simpa using he)
      exact ⟨y, by simpa using g1, g2⟩
theorem findA_same {t : TypeId} {k : FV} : ∀ {es : List (FV × FV × Nat)} {i : Nat} {j : Nat} {v : FV}, findA P t k es i = some (some (j, v)) → ∃ n e, j = i + n ∧ es[n]? = some e ∧ eqK P t k e.1 = some true
  | [], i, j, v, h => by simp [findA] at h
  | e :: es, i, j, v, h => by
    simp only [findA] at h
    split at h
    · rename_i hq
      simp only [Option.some.injEq, Prod.mk.injEq] at h
      exact ⟨0, e, by omega, by simp, hq⟩
    · obtain ⟨n, e', h1, h2, h3⟩ := findA_same h
      exact ⟨n + 1, e', by omega, by simpa using h2, h3⟩
    · cases h
theorem eqV_symm (x y : FV) : eqV x y = eqV y x := by
  cases x <;> cases y <;> simp [eqV, eq_comm, Bool.beq_comm]
theorem eqCells_symm : ∀ (ks : List Kd) (xs ys : List FV), xs.length = ks.length → ys.length = ks.length → eqCells ks xs ys = eqCells ks ys xs
  | [], _, _, _, _ => rfl
  | k :: ks, x :: xs, y :: ys, h1, h2 => by
    simp only [eqCells, eqCells_symm ks xs ys (by simpa using h1) (by simpa using h2), eqV_symm x y]
    split <;> split <;> rfl
theorem eqK_symm {t : TypeId} {x y : FV} : eqK P t x y = eqK P t y x := by
  unfold eqK
  split
  · rw [eqV_symm x y]; split <;> split <;> rfl
  · cases stT P t with
    | none => rfl
    | some ks =>
      cases x <;> cases y <;> first | rfl | skip
      rename_i xs ys
      simp only
      by_cases h1 : xs.length = ks.length <;> by_cases h2 : ys.length = ks.length <;> simp only [h1, h2, if_true, if_false]
      exact eqCells_symm ks xs ys h1 h2
theorem wMapU_ok {t : TypeId} {x k v : Operand} {us : List (Loc × FO)} {r : FV} (hs : wMapU P s.H t (rv s x) (rv s k) (rv s v) = some (us, r)) (ho : o.op = .mapUpdate t x k v ∨ o.op = .insert t x k v) : WOk P s o us r := by
  intro X F m a w h
  unfold wMapU at hs
  split at hs
  case h_2 => cases hs
  rename_i kt et l hmt hx
  have hmt := mpT_some hmt
  split at hs
  case h_2 => cases hs
  rename_i es clk hl
  split at hs
  case isFalse => cases hs
  rename_i hko
  have hxv := rv_ok h x
  rw [hx] at hxv
  generalize hxe : a.eval x = vx at hxv
  cases hxv with
  | mp _ hul =>
  have hkv := rv_ok h k
  have hvv := rv_ok h v
  obtain ⟨h0, ar, g1, g2⟩ := h.heap.obj _ _ hl
  have hck := checkKey_run (P := P) hko hkv false 9998 w
  have hexec : (execOp a.eval o) = (do Instr.mapUpdate t (.map (some (m l).1)) (a.eval k) (a.eval v); pure .skip) := by
    rcases ho with ho | ho <;> simp [execOp, ho, hxe]
  split at hs
  · rename_i i u hf
    simp only [Option.some.injEq, Prod.mk.injEq] at hs
    obtain ⟨rfl, rfl⟩ := hs
    obtain ⟨r', k1, k2⟩ := findKey_run hko hkv hf g2 w
    cases r' with
    | none => exact k2.elim
    | some q =>
      obtain ⟨j, u'⟩ := q
      obtain ⟨rfl, k2⟩ := k2
      obtain ⟨n, e, e1, e2, e3⟩ := findA_same hf
      obtain rfl : i = n := by omega
      obtain ⟨x', e4, e5⟩ := g2.get e2
      have hsb : Instr.sameBits 10000 x'.key (a.eval k) = true := eqK_same (by rw [eqK_symm]; exact e3) e5.key hkv 9999
      have e6 : ar[i]? = some x' := by simpa using e4
      refine ⟨m, undef, _, .inr ⟨?_, rfl⟩, h.turn (o := .map (es.modify i fun e => (rv s k, rv s v, e.2.2)) clk) (ob := .map (ar.modify i fun e => { e with key := a.eval k, val := a.eval v }) clk) hl (by simp) h0 (by simp) g1 (fun w' q1 q2 => ?_), .undef _⟩
      · rw [hexec]
        simp [Instr.mapUpdate, run_underlying hmt, run_getMap g1, hck, k1, Instr.keyThatStays, e6, hsb, run_setMap _ g1]
      · refine ⟨h0, _, q1, ?_⟩
        rw [Array.toList_modify]
        have hne : ∀ b, F b → w'.heap[b]? = w.heap[b]? := fun b hb => q2 b fun e => (h.heap.old l ⟨_, hl, by simp, h0⟩).2 (e ▸ hb)
        have hU : ∀ k', s.H k' ≠ none → upd s.H l (.map (es.modify i fun e => (rv s k, rv s v, e.2.2)) clk) k' ≠ none := fun k' hk => by unfold upd; split <;> simp [hk]
        exact (g2.modify hkv hvv i).keep (fun _ h => h) hne hU (fun _ _ => rfl)
  · rename_i hf
    simp only [Option.some.injEq, Prod.mk.injEq] at hs
    obtain ⟨rfl, rfl⟩ := hs
    obtain ⟨r', k1, k2⟩ := findKey_run hko hkv hf g2 w
    cases r' with
    | some q => exact k2.elim
    | none =>
      refine ⟨m, undef, _, .inr ⟨?_, rfl⟩, h.turn (o := .map (es ++ [(rv s k, rv s v, clk)]) (clk + 1)) (ob := .map (ar.push { key := a.eval k, val := a.eval v, born := clk }) (clk + 1)) hl (by simp) h0 (by simp) g1 (fun w' q1 q2 => ?_), .undef _⟩
      · rw [hexec]
        simp [Instr.mapUpdate, run_underlying hmt, run_getMap g1, hck, k1, run_setMap _ g1]
      · refine ⟨h0, _, q1, ?_⟩
        rw [Array.toList_push]
        have hne : ∀ b, F b → w'.heap[b]? = w.heap[b]? := fun b hb => q2 b fun e => (h.heap.old l ⟨_, hl, by simp, h0⟩).2 (e ▸ hb)
        have hU : ∀ k', s.H k' ≠ none → upd s.H l (.map (es ++ [(rv s k, rv s v, clk)]) (clk + 1)) k' ≠ none := fun k' hk => by unfold upd; split <;> simp [hk]
        exact (g2.append (.cons _ _ _ _ ⟨hkv, hvv, rfl⟩ .nil)).keep (fun _ h => h) hne hU (fun _ _ => rfl)
  · cases hs

def wRange (P : Program) (H : Heap) (nm : Loc) (t : TypeId) (x : FV) : Option (List (Loc × FO) × FV) := match mpT P t with
  | none => none
  | some _ => if (H nm).isNone then (match x with
    | .mp l => match H l with
      | some (.map _ clk) => some ([(nm, .iter x clk [] clk)], .ptr nm 0 0 0)
      | _ => none
    | .nilm => some ([(nm, .iter .nilm 0 [] 0)], .ptr nm 0 0 0)
    | _ => none) else none
theorem wRange_ok {nm : Loc} {t : TypeId} {x : Operand} {us : List (Loc × FO)} {v : FV} (hs : wRange P s.H nm t (rv s x) = some (us, v)) (ho : o.op = .range t x) : WOk P s o us v := by
  intro X F m a w h
  unfold wRange at hs
  split at hs
  · cases hs
  rename_i ke hmt
  obtain ⟨kt, et⟩ := ke
  have hmt := mpT_some hmt
  split at hs
  case isFalse => cases hs
  rename_i hc
  simp only [Option.isNone_iff_eq_none] at hc
  have hxv := rv_ok h x
  have key : ∀ (f : FV) (q : Option Nat) (since : Nat), RF w F (fun l => s.H l ≠ none) m f (.map q) → (Instr.range t (a.eval x)).run P w = .ok (.pointer (some ⟨w.heap.size, 0, none⟩)) (w.alloc (.mapIter q since #[] since)) →
      ∃ (m' : Loc → Nat × Nat) (u : Value) (w' : World), Ran P o a w u w' ∧ RelX X F m' { s with H := upds s.H [(nm, .iter f since [] since)] } a w' ∧ RF w' F (fun l => upds s.H [(nm, .iter f since [] since)] l ≠ none) m' (.ptr nm 0 0 0) u := by
    intro f q since hf hrun
    obtain ⟨g1, g2⟩ := MapKept.heap_alloc w (.mapIter q since #[] since)
    have hR := h.obj (l := nm) (n := 1) (ob := .mapIter q since #[] since) (o := .iter f since [] since) hc ⟨by simp, q, hf.keep (fun _ h => h) (fun b hb => g2 b (h.frz b hb)) (fun k hk => by unfold upd; split <;> simp [hk]) (fun k hk => by
      have : k ≠ nm := fun e => hk (e ▸ hc)
      simp [this]), by simpa using g1⟩
    refine ⟨_, .pointer (some ⟨w.heap.size, 0, none⟩), _, .inl (by simp [execOp, ho, hrun]), hR, ?_⟩
    have := RF.ptr (w := w.alloc (.mapIter q since #[] since)) (F := F) (U := fun k => upds s.H [(nm, .iter f since [] since)] k ≠ none) (m := fun k => if k = nm then (w.heap.size, 1) else m k) nm 0 0 0 (by simp [upds, upd])
    simpa using this
  split at hs
  · rename_i l hx
    split at hs
    case h_2 => cases hs
    rename_i es clk hl
    simp only [Option.some.injEq, Prod.mk.injEq] at hs
    obtain ⟨rfl, rfl⟩ := hs
    rw [hx] at hxv
    obtain ⟨h0, ar, g1, g2⟩ := h.heap.obj _ _ hl
    generalize hxe : a.eval x = vx at hxv
    cases hxv with
    | mp _ hul =>
    rw [hx]
    exact key _ _ clk (.mp l hul) (by rw [hxe]; simp [Instr.range, run_underlying hmt, run_getMap g1])
  · rename_i hx
    simp only [Option.some.injEq, Prod.mk.injEq] at hs
    obtain ⟨rfl, rfl⟩ := hs
    rw [hx] at hxv
    generalize hxe : a.eval x = vx at hxv
    cases hxv with
    | nilm => exact key _ _ 0 .nilm (by rw [hxe]; simp [Instr.range, run_underlying hmt])
  · cases hs

def wNext (H : Heap) (it : FV) (str : Bool) : Option (List (Loc × FO) × FV) := match it, str with
  | .ptr l 0 0 0, false => match H l with
    | some (.iter .nilm _ _ _) => some ([], .tup [.bool false])
    | some (.iter (.mp k) since seen last) => match H k with
      | some (.map es clk) => if !seen.isEmpty && !es.isEmpty && es.all (fun e => decide (last ≤ e.2.2)) then none else
          match es.filter fun e => !seen.contains e.2.2 with
          | [] => some ([], .tup [.bool false])
          | [e] => if e.2.2 < since then some ([(l, .iter (.mp k) since (seen ++ [e.2.2]) clk)], .tup [.bool true, e.1, e.2.1]) else none
          | _ => none
      | _ => none
    | _ => none
  | _, _ => none
theorem REs.filter {es : List (FV × FV × Nat)} {xs : List MapEntry} (h : REs w F U m es xs) (p : Nat → Bool) : REs w F U m (es.filter fun e => p e.2.2) (xs.filter fun e => p e.born) := by
  induction h with
  | nil => exact .nil
  | cons e x es xs h hs ih =>
    simp only [List.filter_cons, h.born]
    split
    · exact .cons _ _ _ _ h ih
    · exact ih
theorem REs.all {es : List (FV × FV × Nat)} {xs : List MapEntry} (h : REs w F U m es xs) (p : Nat → Bool) : (xs.all fun e => p e.born) = es.all fun e => p e.2.2 := by
  induction h with
  | nil => rfl
  | cons e x es xs h hs ih => simp only [List.all_cons, h.born, ih]
theorem REs.isEmpty {es : List (FV × FV × Nat)} {xs : List MapEntry} (h : REs w F U m es xs) : xs.isEmpty = es.isEmpty := by cases h <;> rfl
theorem wNext_ok {it : Operand} {str : Bool} {us : List (Loc × FO)} {v : FV} (hs : wNext s.H (rv s it) str = some (us, v)) (ho : o.op = .next it str) : WOk P s o us v := by
  intro X F m a w h
  unfold wNext at hs
  split at hs
  case h_2 => cases hs
  rename_i l hx
  have hxv := rv_ok h it
  rw [hx] at hxv
  generalize hxe : a.eval it = vx at hxv
  cases hxv
  have over : ∀ {us v}, some (([] : List (Loc × FO)), FV.tup [.bool false]) = some (us, v) → (Instr.next (a.eval it) false o.type).run P w = .ok (.tuple #[.bool false]) w →
      ∃ (m' : Loc → Nat × Nat) (u : Value) (w' : World), Ran P o a w u w' ∧ RelX X F m' { s with H := upds s.H us } a w' ∧ RF w' F (fun l => upds s.H us l ≠ none) m' v u := by
    intro us v hs hrun
    simp only [Option.some.injEq, Prod.mk.injEq] at hs
    obtain ⟨rfl, rfl⟩ := hs
    exact ⟨m, .tuple #[.bool false], w, .inl (by simp [execOp, ho, hrun]), h, by simpa using RF.tup _ _ (.cons _ _ _ _ (.bool false) .nil)⟩
  split at hs
  · rename_i since seen last hl
    obtain ⟨h0, q, g1, g2⟩ := h.heap.obj _ _ hl
    cases g1
    refine over hs ?_
    rw [hxe]
    simp [Instr.next, run_getIter g2]
  · rename_i k since seen last hl
    obtain ⟨h0, q, g1, g2⟩ := h.heap.obj _ _ hl
    cases g1 with
    | mp _ huk =>
    split at hs
    case h_2 => cases hs
    rename_i es clk hk
    obtain ⟨hk0, ar, k1, k2⟩ := h.heap.obj _ _ hk
    split at hs
    · cases hs
    rename_i hcond
    have e0 : (!seen.toArray.isEmpty && !ar.isEmpty && ar.all (fun e => decide (e.born ≥ last))) = false := by
      have e1 : ar.isEmpty = es.isEmpty := by rw [← k2.isEmpty]; simp
      have e2 : ar.all (fun e => decide (e.born ≥ last)) = es.all (fun e => decide (last ≤ e.2.2)) := by
        rw [← k2.all (fun b => decide (last ≤ b)), Array.all_toList]
      rw [e1, e2]
      simpa using hcond
    have e3 : (ar.filter fun e => !seen.toArray.contains e.born).toList = ar.toList.filter fun e => !seen.contains e.born := by
      rw [Array.toList_filter]
      simp
    have k3 := k2.filter (fun b => !seen.contains b)
    rw [← e3] at k3
    generalize hleft : (ar.filter fun e => !seen.toArray.contains e.born) = left at k3
    split at hs
    · rename_i hf
      rw [hf] at k3
      have hl0 : left = #[] := by
        apply Array.ext'
        cases hq : left.toList with
        | nil => rfl
        | cons _ _ => rw [hq] at k3; cases k3
      refine over hs ?_
      rw [hxe]
      simp only [Instr.next, Nat.zero_mul, Nat.add_zero, Sem.run_bind, run_getIter g2, Result.andThen_ok, run_getMap k1, e0, hleft, hl0]
      simp [Question.forced]
    · rename_i e hf
      rw [hf] at k3
      obtain ⟨x, hxl, hre⟩ : ∃ x, left.toList = [x] ∧ RE w F (fun l => s.H l ≠ none) m e x := by
        cases hq : left.toList with
        | nil => rw [hq] at k3; cases k3
        | cons x xs => rw [hq] at k3; cases k3 with
          | cons _ _ _ _ p q => cases q; exact ⟨x, rfl, p⟩
      have hl1 : left = #[x] := by apply Array.ext'; rw [hxl]
      split at hs
      case isFalse => cases hs
      rename_i hborn
      simp only [Option.some.injEq, Prod.mk.injEq] at hs
      obtain ⟨rfl, rfl⟩ := hs
      have hb : x.born < since := by rw [hre.born]; exact hborn
      have hb' : ¬ since ≤ x.born := by omega
      have hT := h.turn (o := .iter (.mp k) since (seen ++ [e.2.2]) clk) (ob := .mapIter (some (m k).1) since (seen.toArray.push x.born) clk) hl (by simp) h0 (by simp) g2 (fun w' q1 q2 => by
        have hne : ∀ b, F b → w'.heap[b]? = w.heap[b]? := fun b hb => q2 b fun e => (h.heap.old l ⟨_, hl, by simp, h0⟩).2 (e ▸ hb)
        refine ⟨h0, some (m k).1, .mp k (by unfold upd; split <;> simp [huk]), ?_⟩
        rw [q1, ← hre.born]
        simp)
      have hrun : (Instr.next (.pointer (some ⟨(m l).1, 0, none⟩)) false o.type).run P w = .ok (.tuple #[.bool true, x.key, x.val]) { w with heap := w.heap.setIfInBounds (m l).1 (.mapIter (some (m k).1) since (seen.toArray.push x.born) clk) } := by
        simp only [Instr.next, Sem.run_bind, run_getIter g2, Result.andThen_ok, run_getMap k1, e0, hleft, hl1]
        simp [Question.forced, hb, hb', run_setIter _ g2]
      refine ⟨m, .tuple #[.bool true, x.key, x.val], _, .inl (by simp only [execOp, ho, hxe]; simp only [Nat.zero_mul, Nat.add_zero, Sem.run_bind, hrun]; rfl), hT, ?_⟩
      have hT' := hT
      have hbl := fun b (hb : F b) => (MapKept.heap_set (o' := .mapIter (some (m k).1) since (seen.toArray.push x.born) clk) g2).2 b fun e => (h.heap.old l ⟨_, hl, by simp, h0⟩).2 (e ▸ hb)
      have hU : ∀ k', s.H k' ≠ none → upds s.H [(l, .iter (.mp k) since (seen ++ [e.2.2]) clk)] k' ≠ none := fun k' hk' => upds_ne _ hk'
      have := RFs.cons _ _ _ _ (RF.bool (w := { w with heap := w.heap.setIfInBounds (m l).1 (.mapIter (some (m k).1) since (seen.toArray.push x.born) clk) }) (F := F) (U := fun k' => upds s.H [(l, .iter (.mp k) since (seen ++ [e.2.2]) clk)] k' ≠ none) (m := m) true)
        (.cons _ _ _ _ (hre.key.keep (fun _ h => h) hbl hU (fun _ _ => rfl)) (.cons _ _ _ _ (hre.val.keep (fun _ h => h) hbl hU (fun _ _ => rfl)) .nil))
      simpa using RF.tup _ _ this
    · cases hs
  · cases hs
end
end Go.FM
