/- One of the texts of a proof by an abstract machine over the model. -/
import Derived.Test.YtmhkendlllmodaaGreatDoorFmG6
import Derived.StillTail
set_option linter.unusedSimpArgs false
set_option linter.unusedVariables false
namespace Go.FM
open Go

/-- what a function does: called with these, over these blocks, it answers with this, and the blocks are then these -/
def FC (P : Program) (G : List (Nat × List Value)) (f : FuncId) (args : List FV) (H : Heap) (r : FV) (H' : Heap) : Prop :=
  ∀ (w : World) (F : Nat → Prop) (m : Loc → Nat × Nat) (vs : List Value), (∀ y, F y → y < w.heap.size) → GlobOk G F w → RFs w F (fun l => H l ≠ none) m args vs → HeapR w F m H →
    Calls P f vs.toArray w fun e w' => ∃ (v : Value) (F' : Nat → Prop) (m' : Loc → Nat × Nat), e = .returned v ∧ (∀ y, F y → F' y) ∧ (∀ y, F' y → (F y ∨ w.heap.size ≤ y) ∧ y < w'.heap.size) ∧
      (∀ l, H l ≠ none → m' l = m l ∧ H' l ≠ none) ∧ RF w' F' (fun l => H' l ≠ none) m' r v ∧ HeapR w' F' m' H' ∧ (∀ l, Live H' m' l → (∃ k, Live H m k ∧ (m k).1 = (m' l).1) ∨ w.heap.size ≤ (m' l).1) ∧
      w.heap.size ≤ w'.heap.size ∧ (∀ y, y < w.heap.size → (∀ l, Live H m l → (m l).1 ≠ y) → w'.heap[y]? = w.heap[y]?) ∧ w'.os = w.os ∧ w'.tape = w.tape ∧ w'.output = w.output

def fnOk (P : Program) (f : FuncId) : Bool := match P.funcs[f]? with
  | some fn => fn.name != "runtime.NumGoroutine" && fn.body.isSome
  | none => false

section
variable {P : Program} {X : Ctx} {c : Cfg} {w w' : World} {F F' : Nat → Prop} {m m' : Loc → Nat × Nat} {s s' : FS} {a a' : Act} {o : Oper}

theorem rvs_ok (h : RelX X F m s a w) : ∀ l : List Operand, RFs w F (fun l => s.H l ≠ none) m (l.map (rv s)) (l.map a.eval)
  | [] => .nil
  | x :: l => .cons _ _ _ _ (rv_ok h x) (rvs_ok h l)

/-- behind a call: the state's blocks are as the contract says -/
theorem RelX.called (h : RelX X F m s a w) {H' : Heap} (hF1 : ∀ y, F y → F' y) (hF2 : ∀ y, F' y → (F y ∨ w.heap.size ≤ y) ∧ y < w'.heap.size) (hm : ∀ l, s.H l ≠ none → m' l = m l ∧ H' l ≠ none) (hH : HeapR w' F' m' H')
    (hl : ∀ l, Live H' m' l → (∃ k, Live s.H m k ∧ (m k).1 = (m' l).1) ∨ w.heap.size ≤ (m' l).1) (hsz : w.heap.size ≤ w'.heap.size) (hold : ∀ y, y < w.heap.size → (∀ l, Live s.H m l → (m l).1 ≠ y) → w'.heap[y]? = w.heap[y]?)
    (hos : w'.os = w.os) (htape : w'.tape = w.tape) (hout : w'.output = w.output) : RelX X F' m' { s with H := H' } a w' := by
  refine { df := h.df, vsz := h.vsz, val := fun t => (h.val t).keep hF1 (fun b hb => hold b (h.frz b hb) fun l hl e => (h.heap.old l hl).2 (e ▸ hb)) (fun l hl => (hm l hl).2) (fun l hl => (hm l hl).1), heap := hH, own := fun l hl' => ?_, ext := fun l hl' => (hm l (h.ext l hl')).2, mfix := fun l hl' => (hm l (h.ext l hl')).1.trans (h.mfix l hl'),
           frz := fun b hb => (hF2 b hb).2, keep := fun b hb hn => ?_, size := Nat.le_trans h.size hsz, os := hos.trans h.os, tape := htape.trans h.tape, output := hout.trans h.output }
  · rcases hl l hl' with ⟨k, h1, h2⟩ | h1
    · rw [← h2]
      exact h.own k h1
    · exact .inr (by have := h.size; omega)
  · rw [hold b (by have := h.size; omega) fun l hl' e => ?_]
    · exact h.keep b hb hn
    · rcases h.own l hl' with h1 | h1
      · exact hn (e ▸ h1)
      · omega

/-- the function that an operation calls, and with what -/
def callee? (s : FS) (o : Oper) : Option (FuncId × List FV) := match o.op with
  | .call { callee := .value x, args, argTypes := _ } => match rv s x with
    | .clo f first caps => some (f, first ++ args.toList.map (rv s) ++ caps)
    | _ => none
  | _ => none

theorem FC.mono_G {G : List (Nat × List Value)} {f : FuncId} {args : List FV} {H H' : Heap} {r : FV} (h : FC P [] f args H r H') : FC P G f args H r H' :=
  fun w F m vs hF _ hv hH => h w F m vs hF GlobOk.nil hv hH

theorem call_wp {f : FuncId} {A : List FV} {r : FV} {H' : Heap} {s1 : FS} {K : Act → World → Prop} {Q : Exit → Act → World → Prop} (hc : callee? s o = some (f, A)) (hf : fnOk P f = true) (hfc : FC P c.G f A s.H r H')
    (hp : putD c o r { s with H := H' } = some s1) (h : Rel X c s a w) (hK : ∀ v w', Rel X c s1 (a.put o.dst v) w' → K (a.put o.dst v) w') : o.wp P a w K Q := by
  obtain ⟨hN, F, m, h1, h2, h⟩ := h
  unfold callee? at hc
  split at hc
  case h_2 => cases hc
  rename_i x args ts ho
  split at hc
  case h_2 => cases hc
  rename_i g first caps hx
  simp only [Option.some.injEq, Prod.mk.injEq] at hc
  obtain ⟨rfl, rfl⟩ := hc
  have hxv := rv_ok h x
  rw [hx] at hxv
  generalize hvx : a.eval x = vx at hxv
  cases hxv with
  | clo _ _ _ us vs g1 g2 =>
  have hargs : RFs w F (fun l => s.H l ≠ none) m (first ++ args.toList.map (rv s) ++ caps) (us ++ args.toList.map a.eval ++ vs) := (g1.append (rvs_ok h _)).append g2
  have hrun : (execOp a.eval o).run P w = .ok (.enter g (us ++ args.toList.map a.eval ++ vs).toArray) w := by
    unfold fnOk at hf
    split at hf
    · rename_i fn hfn
      simp only [Bool.and_eq_true, bne_iff_ne, ne_eq] at hf
      have hb : ¬ fn.body = none := fun hh => by rw [hh] at hf; simp at hf
      have e : (us ++ args.toList.map a.eval ++ vs).toArray = us.toArray ++ args.map a.eval ++ vs.toArray := by
        apply Array.ext'
        simp
      rw [e]
      simp [execOp, ho, resolve, hvx, Deferred.ofValue, invoke, callFunc, hfn, hb, hf.1]
    · cases hf
  unfold Oper.wp
  rw [hrun, Oper.upon_enter]
  refine (hfc w F m _ h.frz (h1.here h) hargs h.heap).mono ?_
  rintro e w' ⟨v, F', m', rfl, k1, k2, k3, k4, k5, k6, k7, k8, k9, k10, k11⟩
  have hR := h.called k1 k2 k3 k5 k6 k7 k8 k9 k10 k11
  refine hK v w' ⟨by rw [size_put]; exact hN, F', m', h1.more k1, fun y hy => ?_, putD_ok hR hN k4 hp⟩
  rcases (k2 y hy).1 with h' | h'
  · exact h2 y h'
  · exact .inr (by have := h.size; omega)

theorem step_wp {K : Act → World → Prop} {Q : Exit → Act → World → Prop} (hs : Snd P c o s s') (h : Rel X c s a w) (hK : ∀ v w', Rel X c s' (a.put o.dst v) w' → K (a.put o.dst v) w') : o.wp P a w K Q := by
  obtain ⟨hN, F, m, h1, h2, h⟩ := h
  obtain ⟨m', v, w', hrun, h'⟩ := hs X F m a w hN h
  have := hK v w' ⟨by rw [size_put]; exact hN, F, m', h1, h2, h'⟩
  unfold Oper.wp
  rcases hrun with hrun | ⟨hrun, rfl⟩
  · rw [hrun]; exact this
  · rw [hrun]; exact this

/-! ### a region -/
def fStep (P : Program) (c : Cfg) (o : Oper) (s : FS) : Option FS := match wv P s.H (c.nm (o.dst.getD 0) s.ix) (rv s) o with
  | some (us, v) => putD c o v { s with H := upds s.H us }
  | none => none
theorem fStep_ok (hs : fStep P c o s = some s') : Snd P c o s s' := by
  unfold fStep at hs
  split at hs
  · exact (wv_ok ‹_›).snd hs
  · cases hs
def guardV (ops : Array Oper) (o : Oper) (s : FS) : Option Bool := match o.guard with
  | none => some true
  | some (j, want) => match (ops[j]?).bind (·.dst) with
    | some d => match s.get d with
      | .bool b => some (b == want)
      | .tup [] => some false
      | _ => none
    | none => none
def wStep (P : Program) (c : Cfg) (o : Oper) (s : FS) (K : FS → Prop) : Prop := match callee? s o with
  | some (f, A) => fnOk P f = true ∧ ∃ r H', FC P c.G f A s.H r H' ∧ ∃ s1, putD c o r { s with H := H' } = some s1 ∧ K s1
  | none => ∃ s1, fStep P c o s = some s1 ∧ K s1
def wOps (P : Program) (c : Cfg) (ops : Array Oper) : List Oper → (FS → Prop) → FS → Prop
  | [], K, s => K s
  | o :: rest, K, s => match guardV ops o s with
    | some true => wStep P c o s (wOps P c ops rest K)
    | some false => ∃ s1, putD c o (.tup []) s = some s1 ∧ wOps P c ops rest K s1
    | none => False

theorem guard_ok {ops : Array Oper} {b : Bool} (h : Rel X c s a w) (hg : guardV ops o s = some b) : Region.wanted o (yielded ops a.tmps) = b := by
  obtain ⟨_, F, m, _, _, h⟩ := h
  unfold guardV at hg
  unfold Region.wanted
  split at hg
  · rename_i hn; rw [hn]; simpa using hg
  · rename_i j want hj
    rw [hj]
    simp only
    split at hg
    · rename_i d hd
      split at hg
      · rename_i b' hb'
        have hv := h.val d
        rw [hb'] at hv
        generalize hvv : a.tmps.getD d undef = v at hv
        cases hv
        have : a.tmps[d]? = some (.bool b') := by
          rw [Array.getD_eq_getD_getElem?] at hvv
          cases hh : a.tmps[d]? with
          | none => rw [hh] at hvv; simp [undef] at hvv
          | some u => rw [hh] at hvv; simpa using hvv
        have hy : yielded ops a.tmps j = some b' := by
          unfold yielded
          rw [hd, Option.bind_some, this]
        rw [hy]
        simpa using hg
      · rename_i hb'
        obtain rfl : false = b := by simpa using hg
        have hv := h.val d
        rw [hb'] at hv
        generalize hvv : a.tmps.getD d undef = v at hv
        cases hv with
        | tup _ vs hvs =>
        cases hvs
        have hy : yielded ops a.tmps j = none := by
          unfold yielded
          rw [hd, Option.bind_some]
          rw [Array.getD_eq_getD_getElem?] at hvv
          cases hh : a.tmps[d]? with
          | none => rfl
          | some u => rw [hh] at hvv; simp only [Option.getD_some] at hvv; subst hvv; rfl
        rw [hy]
        rfl
      · cases hg
    · cases hg
theorem skip_ok {s1 : FS} (h : Rel X c s a w) (hs : putD c o (.tup []) s = some s1) : Rel X c s1 (a.put o.dst undef) w := by
  obtain ⟨hN, F, m, h1, h2, h⟩ := h
  exact ⟨by rw [size_put]; exact hN, F, m, h1, h2, putD_ok h hN (RF.tup [] [] .nil) hs⟩

theorem wOps_ok {ops : Array Oper} {Q : Exit → Act → World → Prop} {K : FS → Prop} (hK : ∀ s a w, Rel X c s a w → K s → Q .normal a w) :
    ∀ (l : List Oper) (s : FS) (a : Act) (w : World), Rel X c s a w → wOps P c ops l K s → wpList P ops Q l a w
  | [], s, a, w, h, hs => hK s a w h hs
  | o :: rest, s, a, w, h, hs => by
    have ih := wOps_ok (ops := ops) hK rest
    simp only [wOps] at hs
    unfold wpList
    split at hs
    · rename_i hg
      rw [if_pos (guard_ok h hg)]
      left
      unfold wStep at hs
      split at hs
      · rename_i f A hc
        obtain ⟨hf, r, H', hfc, s1, hp, hs⟩ := hs
        exact call_wp hc hf hfc hp h fun v w' h' => ih s1 _ _ h' hs
      · obtain ⟨s1, hst, hs⟩ := hs
        exact step_wp (fStep_ok hst) h fun v w' h' => ih s1 _ _ h' hs
    · rename_i hg
      rw [if_neg (by rw [guard_ok h hg]; simp)]
      obtain ⟨s1, hst, hs⟩ := hs
      exact ih s1 _ _ (skip_ok h hst) hs
    · exact hs.elim
end
end Go.FM
