/- One of the texts of a proof by an abstract machine over the model. -/
import Derived.Test.YtmhkendlllmodaaGreatDoorFmB
set_option linter.unusedSimpArgs false
set_option linter.unusedVariables false
namespace Go.FM
open Go

/-! ### types, as a walk wants them -/
def szT (P : Program) (t : TypeId) : Option Nat := (P.info? t).map (·.size)
def byT (P : Program) (t : TypeId) : Option Nat := (P.info? t).map (·.bytes)
def ldT (P : Program) (t : TypeId) : Option (Option Nat) := match P.underlying t with
  | some (.struct _) => (szT P t).map some
  | some (.array _ _) => (szT P t).map some
  | some _ => some none
  | none => none
def fldT (P : Program) (t : TypeId) (f : Nat) : Option Nat := match P.underlying t with
  | some (.struct fs) => match fs[f]? with
    | some x => match szT P x.type with
      | some 0 => none
      | some _ => some x.offset
      | none => none
    | none => none
  | _ => none
def intT (P : Program) (t : TypeId) : Option IntKind := match P.underlying t with | some (.int k) => some k | _ => none
def hasT (P : Program) (t : TypeId) : Bool := (P.underlying t).isSome
def slT (P : Program) (t : TypeId) : Option (TypeId × Nat) := match P.underlying t with
  | some (.slice e) => (szT P e).map fun n => (e, n)
  | _ => none
def arT (P : Program) (t : TypeId) : Option (Nat × Nat) := match P.underlying t with
  | some (.array n e) => (szT P e).map fun k => (n, k)
  | _ => none
def strT (P : Program) (t : TypeId) : Bool := match P.underlying t with | some .string => true | _ => false
def boolT (P : Program) (t : TypeId) : Bool := match P.underlying t with | some .bool => true | _ => false

section
variable {P : Program} {w : World}
theorem run_szT {t : TypeId} {n : Nat} (h : szT P t = some n) (w : World) : (sizeOf t).run P w = .ok n w := by
  unfold szT at h
  rw [Option.map_eq_some_iff] at h
  obtain ⟨i, hi, rfl⟩ := h
  simp [sizeOf, typeInfo, hi]
theorem byT_some {t : TypeId} {b : Nat} (h : byT P t = some b) : ∃ i, P.info? t = some i ∧ i.bytes = b := by
  unfold byT at h
  rw [Option.map_eq_some_iff] at h
  exact h
theorem szT_info {t : TypeId} {n : Nat} {i : TypeInfo} (h : szT P t = some n) (hi : P.info? t = some i) : i.size = n := by
  unfold szT at h
  rw [hi] at h
  simpa using h
theorem run_ldT {t : TypeId} {x : Option Nat} (h : ldT P t = some x) (w : World) : (isAgg t).run P w = .ok x.isSome w ∧ ∀ n, x = some n → szT P t = some n := by
  unfold ldT at h
  split at h
  · rename_i h1
    rw [Option.map_eq_some_iff] at h
    obtain ⟨n, hn, rfl⟩ := h
    exact ⟨by simp [isAgg, run_underlying h1], by simpa using hn⟩
  · rename_i h1
    rw [Option.map_eq_some_iff] at h
    obtain ⟨n, hn, rfl⟩ := h
    exact ⟨by simp [isAgg, run_underlying h1], by simpa using hn⟩
  · rename_i d n1 n2 h1
    obtain rfl := by simpa using h
    refine ⟨?_, by simp⟩
    simp only [isAgg, Sem.run_bind, run_underlying h1, Result.andThen_ok]
    cases d <;> first | rfl | (exfalso; exact n1 _ rfl) | (exfalso; exact n2 _ _ rfl)
  · cases h
theorem slT_some {t e : TypeId} {n : Nat} (h : slT P t = some (e, n)) : P.underlying t = some (.slice e) ∧ szT P e = some n := by
  unfold slT at h; split at h
  · rename_i h1
    rw [Option.map_eq_some_iff] at h
    obtain ⟨m, hm, e⟩ := h
    simp only [Prod.mk.injEq] at e
    obtain ⟨rfl, rfl⟩ := e
    exact ⟨h1, hm⟩
  · cases h
theorem arT_some {t : TypeId} {n k : Nat} (h : arT P t = some (n, k)) : ∃ e, P.underlying t = some (.array n e) ∧ szT P e = some k := by
  unfold arT at h; split at h
  · rename_i n' e h1
    rw [Option.map_eq_some_iff] at h
    obtain ⟨m, hm, e'⟩ := h
    simp only [Prod.mk.injEq] at e'
    obtain ⟨rfl, rfl⟩ := e'
    exact ⟨e, h1, hm⟩
  · cases h
theorem intT_some {t : TypeId} {k : IntKind} (h : intT P t = some k) : P.underlying t = some (.int k) := by
  unfold intT at h; split at h
  · rename_i h1; rw [h1]; simpa using h
  · cases h
theorem strT_some {t : TypeId} (h : strT P t = true) : P.underlying t = some .string := by
  unfold strT at h; split at h
  · assumption
  · cases h
theorem boolT_some {t : TypeId} (h : boolT P t = true) : P.underlying t = some .bool := by
  unfold boolT at h; split at h
  · assumption
  · cases h
theorem run_field {st : TypeId} {f off : Nat} (h : fldT P st f = some off) (a : Addr) (w : World) : (Instr.fieldAt st (.pointer (some a)) f).run P w = .ok (.pointer (some (a.add off))) w := by
  unfold fldT at h
  split at h
  · rename_i fs h1
    split at h
    · rename_i x hx
      split at h
      · cases h
      · rename_i n hn0 hn
        obtain rfl := by simpa using h
        have hsz := run_szT hn w
        have hne : n ≠ 0 := fun e => hn0 (by rw [e])
        simp [Instr.fieldAt, run_underlying h1, hx, Instr.sureAddr, fieldPlace, hsz, hne]
      · cases h
    · cases h
  · cases h
end

/-! ### rows of cells -/
theorem flat_get {α : Type} (sz : Nat) : ∀ (xs : List (List α)) (i off : Nat) (x : List α), (∀ x ∈ xs, x.length = sz) → xs[i]? = some x → off < sz → xs.flatten[i * sz + off]? = x[off]?
  | [], _, _, _, _, h, _ => by simp at h
  | y :: ys, 0, off, x, hl, h, ho => by
    simp at h; subst h
    have := hl y (by simp)
    rw [List.flatten_cons, Nat.zero_mul, Nat.zero_add, List.getElem?_append_left (by omega)]
  | y :: ys, i + 1, off, x, hl, h, ho => by
    have hy := hl y (by simp)
    rw [List.flatten_cons, List.getElem?_append_right (by rw [hy, Nat.add_mul]; omega)]
    have := flat_get sz ys i off x (fun x hx => hl x (by simp [hx])) (by simpa using h) ho
    rw [← this, hy, Nat.add_mul]
    congr 1
    omega
theorem flat_length {α : Type} (sz : Nat) : ∀ (xs : List (List α)), (∀ x ∈ xs, x.length = sz) → xs.flatten.length = xs.length * sz
  | [], _ => by simp
  | y :: ys, hl => by
    have := flat_length sz ys (fun x hx => hl x (by simp [hx]))
    rw [List.flatten_cons, List.length_append, this, hl y (by simp), List.length_cons, Nat.add_mul]
    omega
theorem flat_part {α : Type} (sz : Nat) : ∀ (xs : List (List α)) (i : Nat) (x : List α), (∀ x ∈ xs, x.length = sz) → xs[i]? = some x → (xs.flatten.drop (i * sz)).take sz = x
  | [], _, _, _, h => by simp at h
  | y :: ys, 0, x, hl, h => by
    simp at h; subst h
    have := hl y (by simp)
    rw [List.flatten_cons, Nat.zero_mul, List.drop_zero, ← this]
    simp
  | y :: ys, i + 1, x, hl, h => by
    have hy := hl y (by simp)
    have := flat_part sz ys i x (fun x hx => hl x (by simp [hx])) (by simpa using h)
    rw [List.flatten_cons, Nat.add_mul, Nat.one_mul, Nat.add_comm, ← List.drop_drop]
    rw [show (y ++ ys.flatten).drop sz = ys.flatten by rw [← hy]; simp]
    exact this

section
variable {P : Program} {w : World} {F : Nat → Prop} {m : Loc → Nat × Nat} {H : Heap}

theorem cell_blk {w : World} {g : Nat} {c : Array Value} {T : TypeId} {fr : Nat × Nat} (hg : w.heap[g]? = some (.cells c T fr)) (k : Nat) : w.cell? ⟨g, k, none⟩ = c[k]? := by
  simp [World.cell?, hg]

/-- a row of a named block: its cells lie there -/
theorem row_at (h : HeapR w F m H) {l : Loc} {T : TypeId} {sz i : Nat} {xs : List (List FV)} {x : List FV} (hl : H l = some (.cells T sz xs)) (hx : xs[i]? = some x) :
    x.length = sz ∧ (m l).2 ≠ 0 ∧ ∃ (c : Array Value) (vs : List Value), w.heap[(m l).1]? = some (.cells c T (0, 0)) ∧ c.size = (m l).2 ∧ (i + 1) * sz ≤ c.size ∧ RFs w F (fun l => H l ≠ none) m x vs ∧ ∀ j, j < sz → vs[j]? = c[i * sz + j]? := by
  rcases h.obj l _ hl with ⟨rfl, _⟩ | ⟨h0, c, g1, g2, g3, g4, g5⟩
  · simp at hx
  · have hlen := g3 x (List.mem_of_getElem? hx)
    have hi : i < xs.length := by rw [List.getElem?_eq_some_iff] at hx; exact hx.1
    have hmul : (i + 1) * sz ≤ xs.length * sz := Nat.mul_le_mul_right _ hi
    refine ⟨hlen, h0, c, ((c.toList.take (xs.length * sz)).drop (i * sz)).take sz, g1, g2, by omega, ?_, ?_⟩
    · have := (g5.drop (i * sz)).take sz
      rw [flat_part sz xs i x g3 hx] at this
      exact this
    · intro j hj
      rw [List.getElem?_take, if_pos hj, List.getElem?_drop, List.getElem?_take, if_pos (by rw [Nat.add_mul] at hmul; omega), Array.getElem?_toList]

/-! ### load -/
def fLoad (P : Program) (H : Heap) (t : TypeId) (x : FV) : Option FV := match ldT P t with
  | none => none
  | some none => match x with
    | .ptr l sz i off => match H l with
      | some (.cells _ sz' xs) => if sz' = sz then (xs[i]?).bind (·[off]?) else none
      | _ => none
    | .ref (v :: _) => some v
    | _ => none
  | some (some 0) => match x with
    | .ptr .. => some (.agg [])
    | .ref _ => some (.agg [])
    | _ => none
  | some (some n) => match x with
    | .ptr l sz i off => match H l with
      | some (.cells _ sz' xs) => if sz' = sz then (xs[i]?).bind fun r => if off + n ≤ r.length then some (.agg ((r.drop off).take n)) else none else none
      | _ => none
    | .ref cs => if n ≤ cs.length then some (.agg (cs.take n)) else none
    | _ => none
theorem fLoad_ok (h : HeapR w F m H) {t : TypeId} {x y : FV} {v : Value} (hs : fLoad P H t x = some y) (hx : RF w F (fun l => H l ≠ none) m x v) :
    ∃ u, (Instr.loadAt t v).run P w = .ok u w ∧ RF w F (fun l => H l ≠ none) m y u := by
  unfold fLoad at hs
  split at hs
  · cases hs
  · rename_i ht
    obtain ⟨hagg, _⟩ := run_ldT ht w
    split at hs
    · rename_i l sz i off
      split at hs
      · rename_i T sz' xs hl
        split at hs
        · rename_i e; subst e
          rw [Option.bind_eq_some_iff] at hs
          obtain ⟨r, hr, hy⟩ := hs
          obtain ⟨hlen, h0, c, vs, g1, g2, g3, g4, g5⟩ := row_at h hl hr
          obtain ⟨u, hu, hru⟩ := g4.get off hy
          have hoff : off < sz' := by rw [← hlen]; rw [List.getElem?_eq_some_iff] at hy; exact hy.1
          rw [g5 off hoff] at hu
          cases hx
          refine ⟨u, ?_, hru⟩
          have hcell : w.cell? ⟨(m l).1, i * sz' + off, none⟩ = some u := by rw [cell_blk g1]; exact hu
          simp [Instr.loadAt, Instr.sureAddr, loadVar, hagg, hcell]
        · cases hs
      · cases hs
    · rename_i y' cs
      obtain rfl := by simpa using hs
      cases hx with
      | ref _ ad vs hF hm hvs =>
      obtain ⟨u, g1, g2⟩ := hvs.get 0 (c := y') rfl
      have hcell := hm 0 u g1
      have e0 : ad.add 0 = ad := by simp [Addr.add]
      rw [e0] at hcell
      exact ⟨u, by simp [Instr.loadAt, Instr.sureAddr, loadVar, hagg, hcell], g2⟩
    · cases hs
  · rename_i ht
    obtain ⟨hagg, hsz⟩ := run_ldT ht w
    have hsz := hsz 0 rfl
    have key : ∀ ad : Addr, (Instr.loadAt t (.pointer (some ad))).run P w = .ok (.agg #[]) w := fun ad => by
      have hld := run_loadCells_list (P := P) (w := w) ad [] (fun j v hj => by simp at hj)
      simp only [List.length_nil] at hld
      simp [Instr.loadAt, Instr.sureAddr, loadVar, hagg, run_szT hsz, hld]
    split at hs
    · obtain rfl := by simpa using hs
      cases hx
      exact ⟨_, key _, .agg [] [] .nil⟩
    · obtain rfl := by simpa using hs
      cases hx
      exact ⟨_, key _, .agg [] [] .nil⟩
    · cases hs
  · rename_i n _ ht
    obtain ⟨hagg, hsz⟩ := run_ldT ht w
    have hsz := hsz n rfl
    split at hs
    · rename_i l sz i off
      split at hs
      · rename_i T sz' xs hl
        split at hs
        · rename_i e; subst e
          rw [Option.bind_eq_some_iff] at hs
          obtain ⟨r, hr, hy⟩ := hs
          split at hy
          · rename_i hle
            obtain rfl := by simpa using hy
            obtain ⟨hlen, h0, c, vs, g1, g2, g3, g4, g5⟩ := row_at h hl hr
            have hvl : vs.length = sz' := by rw [← g4.length]; exact hlen
            cases hx
            have hld := run_loadCells_list (P := P) (w := w) ⟨(m l).1, i * sz' + off, none⟩ ((vs.drop off).take n) (fun j v hj => by
              rw [add0, cell_blk g1, Nat.add_assoc, ← g5 (off + j) (by
                rw [List.getElem?_take] at hj
                split at hj
                · omega
                · cases hj)]
              rw [List.getElem?_take] at hj
              split at hj
              · rw [List.getElem?_drop] at hj; exact hj
              · cases hj)
            have hcl : ((vs.drop off).take n).length = n := by simp; omega
            rw [hcl] at hld
            refine ⟨.agg ((vs.drop off).take n).toArray, ?_, .agg _ _ ((g4.drop off).take n)⟩
            simp [Instr.loadAt, Instr.sureAddr, loadVar, hagg, run_szT hsz, hld]
          · cases hy
        · cases hs
      · cases hs
    · rename_i cs
      split at hs
      · rename_i hle
        obtain rfl := by simpa using hs
        cases hx with
        | ref _ ad vs hF hm hvs =>
        have hvl := hvs.length
        have hld := run_loadCells_list (P := P) (w := w) ad (vs.take n) (fun j v hj => by
          rw [List.getElem?_take] at hj
          split at hj
          · exact hm j v hj
          · cases hj)
        have hcl : (vs.take n).length = n := by simp; omega
        rw [hcl] at hld
        refine ⟨.agg (vs.take n).toArray, ?_, .agg _ _ (hvs.take n)⟩
        simp [Instr.loadAt, Instr.sureAddr, loadVar, hagg, run_szT hsz, hld]
      · cases hs
    · cases hs

/-! ### a field's address; an element's address -/
def fField (P : Program) (st : TypeId) (x : FV) (f : Nat) : Option FV := match fldT P st f, x with
  | some off, .ptr l sz i o => some (.ptr l sz i (o + off))
  | some off, .ref cs => some (.ref (cs.drop off))
  | _, _ => none
theorem fField_ok {st : TypeId} {x y : FV} {f : Nat} {v : Value} (hs : fField P st x f = some y) (hx : RF w F (fun l => H l ≠ none) m x v) :
    ∃ u, (Instr.fieldAt st v f).run P w = .ok u w ∧ RF w F (fun l => H l ≠ none) m y u := by
  unfold fField at hs
  split at hs
  · rename_i off l sz i o ht
    obtain rfl := by simpa using hs
    cases hx with
    | ptr _ _ _ _ hu =>
    refine ⟨_, run_field ht _ w, ?_⟩
    rw [add0, Nat.add_assoc]
    exact .ptr l sz i (o + off) hu
  · rename_i off cs ht
    obtain rfl := by simpa using hs
    cases hx with
    | ref _ ad vs hF hm hvs =>
    exact ⟨_, run_field ht _ w, .ref _ _ (vs.drop off) (by rw [block_add]; exact hF) (fun j v hj => by rw [List.getElem?_drop] at hj; rw [add_add]; exact hm _ _ hj) (hvs.drop off)⟩
  · cases hs

def fIndex (P : Program) (t : TypeId) (x i : FV) : Option FV := match i with
  | .int _ n => match slT P t, x with
    | some (_, sz), .list sz' xs => if decide (sz' = sz) && decide (0 ≤ n) then (xs[n.toNat]?).map .ref else none
    | some (_, sz), .sl l sz' off len => if decide (sz' = sz) && (decide (0 ≤ n) && decide (n < (len : Int))) then some (.ptr l sz (off + n.toNat) 0) else none
    | _, _ => match arT P t, x with
      | some (k, sz), .ptr l rs j o => if decide (0 ≤ n) && decide (n < (k : Int)) then some (.ptr l rs j (o + n.toNat * sz)) else none
      | some (k, sz), .ref cs => if decide (0 ≤ n) && decide (n < (k : Int)) then some (.ref (cs.drop (n.toNat * sz))) else none
      | _, _ => none
  | _ => none
theorem fIndex_ok {t : TypeId} {x i y : FV} {v vi : Value} (hs : fIndex P t x i = some y) (hx : RF w F (fun l => H l ≠ none) m x v) (hi : RF w F (fun l => H l ≠ none) m i vi) :
    ∃ u, (Instr.indexAt t v vi).run P w = .ok u w ∧ RF w F (fun l => H l ≠ none) m y u := by
  unfold fIndex at hs
  split at hs
  case h_2 => cases hs
  rename_i k n
  cases hi
  split at hs
  · rename_i e sz sz' xs ht
    obtain ⟨hu, hz⟩ := slT_some ht
    split at hs
    · rename_i hc
      rw [Bool.and_eq_true] at hc
      obtain ⟨hsz, h0⟩ := hc
      have hsz := of_decide_eq_true hsz
      have h0 := of_decide_eq_true h0
      subst hsz
      rw [Option.map_eq_some_iff] at hs
      obtain ⟨r, hr, rfl⟩ := hs
      cases hx with
      | list _ _ A cap vs hl hc hm hvs =>
      have hlt : n.toNat < xs.length := by rw [List.getElem?_eq_some_iff] at hr; exact hr.1
      obtain ⟨ad, rfl, hF, hcell⟩ := hm (fun e => by rw [e] at hlt; simp at hlt)
      have hlt' : n < (xs.length : Int) := by omega
      refine ⟨.pointer (some (ad.add (n.toNat * sz'))), by simp [Instr.indexAt, asIntOf, run_underlying hu, run_szT hz, h0, hlt'], ?_⟩
      have hpart := (hvs.drop (n.toNat * sz')).take sz'
      rw [flat_part sz' xs n.toNat r hl hr] at hpart
      refine .ref _ _ _ (by rw [block_add]; exact hF) (fun j v hj => ?_) hpart
      rw [List.getElem?_take] at hj
      split at hj
      · rw [List.getElem?_drop] at hj; rw [add_add]; exact hcell _ _ hj
      · cases hj
    · cases hs
  · rename_i e sz l sz' off len ht
    obtain ⟨hu, hz⟩ := slT_some ht
    split at hs
    · rename_i hc
      rw [Bool.and_eq_true, Bool.and_eq_true] at hc
      obtain ⟨hsz, h0, hlt⟩ := hc
      have hsz := of_decide_eq_true hsz
      have h0 := of_decide_eq_true h0
      have hlt := of_decide_eq_true hlt
      subst hsz
      obtain rfl := by simpa using hs
      cases hx with
      | sl _ _ _ _ cap o hu' hc ho hs' =>
        have ho' : o = off * sz' := ho.resolve_left (by omega)
        subst ho'
        refine ⟨.pointer (some ((⟨(m l).1, off * sz', none⟩ : Addr).add (n.toNat * sz'))), by simp [Instr.indexAt, asIntOf, run_underlying hu, run_szT hz, h0, hlt], ?_⟩
        rw [add0, ← Nat.add_mul]
        exact .ptr l sz' (off + n.toNat) 0 hu'
      | sl0 => simp at hlt; omega
    · cases hs
  · split at hs
    · rename_i k' sz l rs j o ht _ _
      obtain ⟨e, hu, hz⟩ := arT_some ht
      split at hs
      · rename_i hc
        rw [Bool.and_eq_true] at hc
        obtain ⟨h0, hlt⟩ := hc
        have h0 := of_decide_eq_true h0
        have hlt := of_decide_eq_true hlt
        obtain rfl := by simpa using hs
        cases hx with
        | ptr _ _ _ _ hu' =>
        refine ⟨.pointer (some ((⟨(m l).1, j * rs + o, none⟩ : Addr).add (n.toNat * sz))), by simp [Instr.indexAt, asIntOf, run_underlying hu, run_szT hz, h0, hlt, Instr.sureAddr], ?_⟩
        rw [add0, Nat.add_assoc]
        exact .ptr l rs j (o + n.toNat * sz) hu'
      · cases hs
    · rename_i k' sz cs ht _ _
      obtain ⟨e, hu, hz⟩ := arT_some ht
      split at hs
      · rename_i hc
        rw [Bool.and_eq_true] at hc
        obtain ⟨h0, hlt⟩ := hc
        have h0 := of_decide_eq_true h0
        have hlt := of_decide_eq_true hlt
        obtain rfl := by simpa using hs
        cases hx with
        | ref _ ad vs hF hm hvs =>
        exact ⟨.pointer (some (ad.add (n.toNat * sz))), by simp [Instr.indexAt, asIntOf, run_underlying hu, run_szT hz, h0, hlt, Instr.sureAddr], .ref _ _ (vs.drop (n.toNat * sz)) (by rw [block_add]; exact hF) (fun j v hj => by rw [List.getElem?_drop] at hj; rw [add_add]; exact hm _ _ hj) (hvs.drop _)⟩
      · cases hs
    · cases hs

/-! ### lengths -/
def fLen (P : Program) (H : Heap) (t : TypeId) (x : FV) : Option FV := match x with
  | .list _ xs => if (slT P t).isSome then some (.int .i64 xs.length) else none
  | .sl _ _ _ len => if (slT P t).isSome then some (.int .i64 len) else none
  | .nils => if (slT P t).isSome then some (.int .i64 0) else none
  | .emp => if (slT P t).isSome then some (.int .i64 0) else none
  | .str s => if strT P t then some (.int .i64 s.size) else none
  | .mp l => match P.underlying t, H l with
    | some (.map _ _), some (.map es _) => some (.int .i64 es.length)
    | _, _ => none
  | .nilm => match P.underlying t with
    | some (.map _ _) => some (.int .i64 0)
    | _ => none
  | _ => match arT P t with
    | some (n, _) => some (.int .i64 n)
    | none => none
theorem fLen_ok (h : HeapR w F m H) {t ty : TypeId} {x y : FV} {v : Value} (hs : fLen P H t x = some y) (hx : RF w F (fun l => H l ≠ none) m x v) :
    ∃ u, (Builtin.len_ #[t] ty #[v]).run P w = .ok u w ∧ RF w F (fun l => H l ≠ none) m y u := by
  unfold fLen at hs
  split at hs
  case h_1 =>
    split at hs
    · rename_i ht
      obtain ⟨⟨e, n⟩, he⟩ := Option.isSome_iff_exists.1 ht
      obtain ⟨hu, _⟩ := slT_some he
      obtain rfl := by simpa using hs
      cases hx
      exact ⟨_, by simp [Builtin.len_, run_underlying hu, goInt], .int _ _⟩
    · cases hs
  case h_2 =>
    split at hs
    · rename_i ht
      obtain ⟨⟨e, n⟩, he⟩ := Option.isSome_iff_exists.1 ht
      obtain ⟨hu, _⟩ := slT_some he
      obtain rfl := by simpa using hs
      cases hx
      · exact ⟨_, by simp [Builtin.len_, run_underlying hu, goInt], .int _ _⟩
      · exact ⟨_, by simp [Builtin.len_, run_underlying hu, goInt], .int _ _⟩
    · cases hs
  case h_3 =>
    split at hs
    · rename_i ht
      obtain ⟨⟨e, n⟩, he⟩ := Option.isSome_iff_exists.1 ht
      obtain ⟨hu, _⟩ := slT_some he
      obtain rfl := by simpa using hs
      cases hx
      exact ⟨_, by simp [Builtin.len_, run_underlying hu, goInt], .int _ _⟩
    · cases hs
  case h_4 =>
    split at hs
    · rename_i ht
      obtain ⟨⟨e, n⟩, he⟩ := Option.isSome_iff_exists.1 ht
      obtain ⟨hu, _⟩ := slT_some he
      obtain rfl := by simpa using hs
      cases hx
      exact ⟨_, by simp [Builtin.len_, run_underlying hu, goInt], .int _ _⟩
    · cases hs
  case h_5 =>
    split at hs
    · rename_i ht
      obtain rfl := by simpa using hs
      cases hx
      exact ⟨_, by simp [Builtin.len_, run_underlying (strT_some ht), goInt], .int _ _⟩
    · cases hs
  case h_6 =>
    split at hs
    · rename_i l _ _ _ _ es clk hu hl
      obtain rfl := by simpa using hs
      cases hx
      obtain ⟨h0, a, g1, g2⟩ := h.obj _ _ hl
      have e : a.size = es.length := by rw [g2.length]; simp
      exact ⟨_, by simp [Builtin.len_, run_underlying hu, goInt, getObj, Sem.run, g1, e], .int _ _⟩
    · cases hs
  case h_7 =>
    split at hs
    · rename_i hu
      obtain rfl := by simpa using hs
      cases hx
      exact ⟨_, by simp [Builtin.len_, run_underlying hu, goInt], .int _ _⟩
    · cases hs
  case h_8 =>
    split at hs
    · rename_i n k ht
      obtain ⟨e, hu, _⟩ := arT_some ht
      obtain rfl := by simpa using hs
      exact ⟨_, by simp [Builtin.len_, run_underlying hu, goInt], .int _ _⟩
    · cases hs
end
end Go.FM
