/- One of the texts of a proof by an abstract machine over the model. -/
import Derived.Test.YthlhjepijodemaaAmC
set_option linter.unusedSimpArgs false
set_option linter.unusedVariables false
namespace Go.AM
open Go

theorem base_agg {cs : Array Value} : baseOf (.agg cs) = none := rfl

section
variable {w w' : World} {F F' : Nat → Prop}

theorem RV.val1_keep {n : AV} {v : Value} {bs : List Nat} (h : RV w F n v bs) (s : Stp) {c : AV} (hc : cellAt n s = some c) (hb : ∀ b ∈ bs, w'.heap[b]? = w.heap[b]?) :
    val1 w' v s = val1 w v s := by
  obtain ⟨vc, l1, bc, l2, h1, _, rfl, _, h5⟩ := h.step s hc
  cases hbv : baseOf v with
  | none => cases v <;> simp_all [val1]
  | some a =>
    obtain ⟨ha, _⟩ := h5 a hbv
    have : ∀ W : World, val1 W v s = W.cell? (a.add s.k) := by
      intro W
      cases v <;> simp [baseOf] at hbv <;> simp [val1, baseOf, hbv]
    rw [this, this]
    exact World.cell?_of_block (by rw [block_add]; exact hb _ (by simp [ha]))
theorem RV.valC_keep {n : AV} {v : Value} {bs : List Nat} (h : RV w F n v bs) (p : List Stp) {c : AV} (hc : nodeAt n p = some c) (hb : ∀ b ∈ bs, w'.heap[b]? = w.heap[b]?) :
    valC w' v p = valC w v p := by
  induction p generalizing n v bs with
  | nil => rfl
  | cons s p ih =>
    simp only [nodeAt, Option.bind_eq_some_iff] at hc
    obtain ⟨m, hm, hc⟩ := hc
    simp only [valC, h.val1_keep s hm hb]
    obtain ⟨vm, k1, bm, k2, h1, h2, rfl, _⟩ := h.step s hm
    simp only [h1, Option.bind_some]
    exact ih h2 hc fun b hb' => hb b (by simp [hb'])

theorem nodeAt_append (n : AV) (p q : List Stp) : nodeAt n (p ++ q) = (nodeAt n p).bind fun m => nodeAt m q := by
  induction p generalizing n with
  | nil => rfl
  | cons s p ih =>
    simp only [List.cons_append, nodeAt]
    cases cellAt n s with
    | none => rfl
    | some m => simp only [Option.bind_some, ih]
theorem valC_append (w : World) (v : Value) (p q : List Stp) : valC w v (p ++ q) = (valC w v p).bind fun u => valC w u q := by
  induction p generalizing v with
  | nil => rfl
  | cons s p ih =>
    simp only [List.cons_append, valC]
    cases val1 w v s with
    | none => rfl
    | some m => simp only [Option.bind_some, ih]
end

/-- what a slot's value is, for what the state says of it -/
def SV (F : Nat → Prop) (s : St) (a : Act) (w : World) (x : AV) (v : Value) (b : List Nat) : Prop :=
  match x with
  | .loc r p => b = [] ∧ (liveB s.D r (p.length - 1) = true → s.get r ≠ .undef ∧ ∃ q st, p = q ++ [st] ∧ ∀ c, nodeAt (s.get r) p = some c →
      ∃ base, (valC w (a.tmps.getD r undef) q).bind baseOf = some base ∧ v = .pointer (some (base.add st.k)))
  | .bor r p => b = [] ∧ (liveB s.D r p.length = true → s.get r ≠ .undef ∧ ∀ c, nodeAt (s.get r) p = some c → c ≠ .undef → valC w (a.tmps.getD r undef) p = some v)
  | x => RV w F x v b

structure RelX (w0 : World) (A0 : List Nat) (ps : List (Nat × Value)) (F : Nat → Prop) (bs : Nat → List Nat) (fr : List Nat) (s : St) (a : Act) (w : World) : Prop where
  df : a.defers = []
  vsz : s.vars.length ≤ a.tmps.size
  val : ∀ t, SV F s a w (s.get t) (a.tmps.getD t undef) (bs t)
  nd : ∀ t, (bs t).Nodup
  dj : ∀ t t' b, b ∈ bs t → b ∈ bs t' → t = t'
  own : ∀ t b, b ∈ bs t → b < w.heap.size ∧ ¬ F b ∧ (b ∈ A0 ∨ w0.heap.size ≤ b)
  fnd : fr.Nodup
  fdj : ∀ t b, b ∈ bs t → b ∉ fr
  fown : ∀ b ∈ fr, b < w.heap.size ∧ ¬ F b ∧ (b ∈ A0 ∨ w0.heap.size ≤ b)
  frz : ∀ b, F b → b < w.heap.size
  keep : ∀ b, b < w0.heap.size → b ∉ A0 → w.heap[b]? = w0.heap[b]?
  size : w0.heap.size ≤ w.heap.size
  os : w.os = w0.os
  tape : w.tape = w0.tape
  output : w.output = w0.output
  pin : ∀ x ∈ ps, a.tmps[x.1]? = some x.2

theorem liveB_app {D' D : List (Nat × Nat)} {r dep : Nat} (h : liveB (D' ++ D) r dep = true) : liveB D r dep = true := by
  simp only [liveB, List.all_append, Bool.and_eq_true] at h ⊢; exact h.2
theorem liveB_cons {t l : Nat} {D : List (Nat × Nat)} {r dep : Nat} (h : liveB ((t, l) :: D) r dep = true) : (t = r → dep < l) ∧ liveB D r dep = true := by
  simp only [liveB, List.all_cons, Bool.and_eq_true, Bool.or_eq_true, Bool.not_eq_true', decide_eq_true_eq] at h ⊢
  refine ⟨fun e => ?_, h.2⟩
  rcases h.1 with h | h
  · simp [e] at h
  · exact h

/-- how a changed slot treats the handles that lead through it -/
def RootOk (s s' : St) (a a' : Act) (w w' : World) (r : Nat) : Prop :=
  s.get r = .undef ∨ liveB s'.D r 0 = false ∨
  (s'.get r ≠ .undef ∧ ∀ p, liveB s'.D r p.length = true →
    (∀ c, nodeAt (s'.get r) p = some c → c ≠ .undef → ∃ c0, nodeAt (s.get r) p = some c0 ∧ c0 ≠ .undef) ∧
    (∀ st c, nodeAt (s'.get r) (p ++ [st]) = some c → ∃ c0, nodeAt (s.get r) (p ++ [st]) = some c0) ∧
    (∀ x, valC w (a.tmps.getD r undef) p = some x → valC w' (a'.tmps.getD r undef) p = some x))

theorem liveB_mono {D : List (Nat × Nat)} {r dep dep' : Nat} (h : liveB D r dep = true) (hd : dep' ≤ dep) : liveB D r dep' = true := by
  simp only [liveB, List.all_eq_true] at h ⊢
  intro e he
  have := h e he
  simp only [Bool.or_eq_true, decide_eq_true_eq] at this ⊢
  rcases this with h | h
  · exact .inl h
  · exact .inr (by omega)

theorem SV.nonh {F : Nat → Prop} {s : St} {a : Act} {w : World} {x : AV} {v : Value} {b : List Nat} (h : SV F s a w x v b) (hx : x.isH = false) : RV w F x v b := by
  cases x <;> first | exact h | simp [AV.isH] at hx
theorem SV.of {F : Nat → Prop} {s : St} {a : Act} {w : World} {x : AV} {v : Value} {b : List Nat} (h : RV w F x v b) : SV F s a w x v b := by
  cases h <;> first | exact RV.undef _ | skip
  all_goals first
    | exact RV.int _ _ | exact RV.bool _ | exact RV.str _ | exact RV.fn _ | exact RV.nils _ | exact RV.own0 _ _
    | exact RV.list _ _ _ _ _ ‹_› ‹_› ‹_› ‹_› | exact RV.own _ _ _ _ _ _ _ ‹_› ‹_› ‹_› ‹_› ‹_› | exact RV.agg _ _ _ ‹_› | exact RV.tup _ _ _ ‹_›
    | exact RV.ref _ _ _ ‹_› ‹_› ‹_› | exact RV.box _ _ _ _ _ ‹_› ‹_›

/-- the value of an unchanged slot, in the changed state -/
theorem SV.change {F F' : Nat → Prop} {s s' : St} {a a' : Act} {w w' : World} {bs : Nat → List Nat} {x : AV} {v : Value} {b : List Nat} {C : Nat → Prop}
    (hval : ∀ t, SV F s a w (s.get t) (a.tmps.getD t undef) (bs t)) (h : SV F s a w x v b)
    (hs : ∀ t, ¬ C t → s'.get t = s.get t ∧ a'.tmps.getD t undef = a.tmps.getD t undef)
    (hD : ∀ r dep, liveB s'.D r dep = true → liveB s.D r dep = true)
    (hF : ∀ b, F b → F' b ∧ w'.heap[b]? = w.heap[b]?)
    (hb : ∀ t b, ¬ C t → b ∈ bs t → w'.heap[b]? = w.heap[b]?) (hb' : ∀ y ∈ b, w'.heap[y]? = w.heap[y]?)
    (hr : ∀ r, C r → RootOk s s' a a' w w' r) : SV F' s' a' w' x v b := by
  have hval' : ∀ r p c, ¬ C r → nodeAt (s.get r) p = some c → valC w' (a.tmps.getD r undef) p = valC w (a.tmps.getD r undef) p := by
    intro r p c hC hc
    by_cases hh : (s.get r).isH = true
    · cases p with
      | nil => rfl
      | cons st p =>
        simp only [nodeAt, Option.bind_eq_some_iff] at hc
        obtain ⟨m, hm, _⟩ := hc
        cases hg : s.get r <;> simp [hg, AV.isH] at hh <;> simp [hg, cellAt] at hm
    · have := (hval r).nonh (by simpa using hh)
      exact this.valC_keep p hc fun y hy => hb r y hC hy
  by_cases hx : x.isH = true
  · cases x with
    | loc r p =>
      obtain ⟨rfl, h⟩ := h
      refine ⟨rfl, fun hl => ?_⟩
      obtain ⟨hu, q, st, rfl, hc⟩ := h (hD _ _ hl)
      by_cases hC : C r
      · rcases hr r hC with h0 | h0 | ⟨h0, h1⟩
        · exact absurd h0 hu
        · rw [liveB_mono hl (Nat.zero_le _)] at h0; cases h0
        · refine ⟨h0, q, st, rfl, fun c hn => ?_⟩
          obtain ⟨_, g2, g3⟩ := h1 q (by simpa using hl)
          obtain ⟨c0, hc0⟩ := g2 st c hn
          obtain ⟨base, hb1, hb2⟩ := hc c0 hc0
          refine ⟨base, ?_, hb2⟩
          rw [Option.bind_eq_some_iff] at hb1 ⊢
          obtain ⟨y, hy, hy2⟩ := hb1
          exact ⟨y, g3 y hy, hy2⟩
      · obtain ⟨e1, e2⟩ := hs r hC
        rw [e1, e2]
        refine ⟨hu, q, st, rfl, fun c hn => ?_⟩
        obtain ⟨base, hb1, hb2⟩ := hc c hn
        refine ⟨base, ?_, hb2⟩
        have hq : ∃ c', nodeAt (s.get r) q = some c' := by
          rw [nodeAt_append, Option.bind_eq_some_iff] at hn
          obtain ⟨m, hm, _⟩ := hn
          exact ⟨m, hm⟩
        obtain ⟨c', hc'⟩ := hq
        rw [hval' r q c' hC hc']
        exact hb1
    | bor r p =>
      obtain ⟨rfl, h⟩ := h
      refine ⟨rfl, fun hl => ?_⟩
      obtain ⟨hu, hc⟩ := h (hD _ _ hl)
      by_cases hC : C r
      · rcases hr r hC with h0 | h0 | ⟨h0, h1⟩
        · exact absurd h0 hu
        · rw [liveB_mono hl (Nat.zero_le _)] at h0; cases h0
        · refine ⟨h0, fun c hn hcu => ?_⟩
          obtain ⟨g1, _, g3⟩ := h1 p hl
          obtain ⟨c0, hc0, hcu0⟩ := g1 c hn hcu
          exact g3 _ (hc c0 hc0 hcu0)
      · obtain ⟨e1, e2⟩ := hs r hC
        rw [e1, e2]
        refine ⟨hu, fun c hn hcu => ?_⟩
        rw [hval' r p c hC hn]
        exact hc c hn hcu
    | _ => simp [AV.isH] at hx
  · exact SV.of ((h.nonh (by simpa using hx)).keep (fun y hy => (hF y hy).1) fun y hy => by
      rcases hy with hy | hy
      · exact (hF y hy).2
      · exact hb' y hy)
end Go.AM
