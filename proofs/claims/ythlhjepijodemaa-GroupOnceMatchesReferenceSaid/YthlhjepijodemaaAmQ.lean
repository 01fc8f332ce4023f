/- One of the texts of a proof by an abstract machine over the model. -/
import Derived.Test.YthlhjepijodemaaAmP
set_option linter.unusedSimpArgs false
set_option linter.unusedVariables false
namespace Go.AM
open Go

theorem getD_append_rep {α : Type} (l : List α) (n t : Nat) (u : α) : (l ++ List.replicate n u).getD t u = l.getD t u := by
  rw [List.getD_eq_getElem?_getD, List.getD_eq_getElem?_getD]
  rcases Nat.lt_or_ge t l.length with h | h
  · rw [List.getElem?_append_left h]
  · rw [List.getElem?_append_right h, List.getElem?_eq_none h]
    rcases Nat.lt_or_ge (t - l.length) n with h' | h'
    · simp [h']
    · rw [List.getElem?_eq_none (by simpa using h')]
theorem init_get (nv : Nat) (args : List AV) (t : Nat) : (St.init nv args).get t = args.getD t .undef := by
  by_cases h : t < (St.init nv args).vars.length
  · unfold St.get
    rw [if_pos h]; exact getD_append_rep args _ t .undef
  · unfold St.get
    rw [if_neg h]
    show AV.undef = _
    rw [List.getD_eq_getElem?_getD, List.getElem?_eq_none]
    · rfl
    · simp [St.init] at h; omega

def pinsOf (pins : List Nat) (vs : List Value) : List (Nat × Value) := pins.filterMap fun i => (vs[i]?).map fun v => (i, v)

/-- what a function does with owned and lent arguments, its answer among some -/
def OCP (P : Program) (f : FuncId) (args : List AV) (R : AV → Prop) (args' : List AV) : Prop :=
  ∀ (w : World) (F : Nat → Prop) (vs : List Value) (b : List Nat), (∀ y, F y → y < w.heap.size) → RVs w F args vs b → b.Nodup → (∀ y ∈ b, y < w.heap.size ∧ ¬ F y) →
    Calls P f vs.toArray w fun e w' => ∃ r, R r ∧ ∃ (v : Value) (F' : Nat → Prop) (b' br : List Nat), e = .returned v ∧ (∀ y, F y → F' y) ∧ (∀ y, F' y → (F y ∨ y ∈ b ∨ w.heap.size ≤ y) ∧ y < w'.heap.size) ∧
      RVs w' F' args' vs b' ∧ RV w' F' r v br ∧ (b' ++ br).Nodup ∧ (∀ y ∈ b' ++ br, y < w'.heap.size ∧ ¬ F' y ∧ (y ∈ b ∨ w.heap.size ≤ y)) ∧
      w.heap.size ≤ w'.heap.size ∧ (∀ y, y < w.heap.size → y ∉ b → w'.heap[y]? = w.heap[y]?) ∧ w'.os = w.os ∧ w'.tape = w.tape ∧ w'.output = w.output
theorem OCP.one {P : Program} {f : FuncId} {args args' : List AV} {r : AV} (h : OCP P f args (· = r) args') : OC P f args r args' := by
  intro w F vs b hF hv hn hb
  refine (h w F vs b hF hv hn hb).mono ?_
  rintro e w' ⟨r', rfl, h9⟩
  exact h9
theorem OCP.frz {P : Program} {f : FuncId} {args args' : List AV} {r : AV} (h : OCP P f args (fun x => fz x = r) args') : OC P f args r args' := by
  intro w F vs b hF hv hn hb
  refine (h w F vs b hF hv hn hb).mono ?_
  rintro e w' ⟨r', rfl, v, F', b', br, he, h1, h2, h3, h4, h5, h6, h7, h8, h9⟩
  have hn5 := List.nodup_append.1 h5
  refine ⟨v, fun y => F' y ∨ y ∈ br, b', [], he, fun y hy => .inl (h1 y hy), fun y hy => ?_, h3.keep (fun _ h => .inl h) (fun _ _ => rfl), h4.fz, by simpa using hn5.1, fun y hy => ?_, h7, h8, h9⟩
  · rcases hy with hy | hy
    · exact h2 y hy
    · have := h6 y (by simp [hy]); exact ⟨.inr this.2.2, this.1⟩
  · simp at hy
    have := h6 y (by simp [hy])
    exact ⟨this.1, fun h => h.elim (fun h => this.2.1 h) (fun h => hn5.2.2 y hy y h rfl), this.2.2⟩

theorem OCP_of {P : Program} {f : FuncId} {fn : Func} {code : Code} {c : Cfg} {nv : Nat} {args args' : List AV} {R : AV → Prop} (hf : P.funcs[f]? = some fn) (hb : fn.body = some code) (hN : c.N = fn.ntmps)
    (hargs : args.length ≤ nv) (hnv : nv ≤ fn.ntmps) (hd : (resSlots fn.results.toList ++ c.pins).Nodup)
    (h : awCode P c code (fun e s => (e = .normal ∨ e = .ret) ∧ ∃ l, resL P s fn.results.toList = some l ∧ R (tupOf l) ∧ args' = retArgs c.pins s args.length ∧ (c.pins.all fun i => !(s.get i).isH) = true) (St.init nv args)) :
    OCP P f args R args' := by
  intro w F vs b hF hv hn hbb
  obtain ⟨bs, g1, g2, g3, g4⟩ := RVs.all hv hn
  have hlen := hv.length
  let X : Ctx := ⟨w, b, pinsOf c.pins vs, F⟩
  let a0 : Act := { tmps := vs.toArray ++ Array.replicate (fn.ntmps - vs.toArray.size) undef, defers := [] }
  have hget : ∀ t, a0.tmps.getD t undef = vs.getD t undef := fun t => by
    show (vs.toArray ++ Array.replicate (fn.ntmps - vs.toArray.size) undef).getD t undef = _
    rw [Array.getD_eq_getD_getElem?, ← Array.getElem?_toList]
    simp only [Array.toList_append, Array.toList_replicate]
    rw [← List.getD_eq_getElem?_getD]
    exact getD_append_rep vs _ t undef
  have hsz : a0.tmps.size = fn.ntmps := by
    show (vs.toArray ++ Array.replicate (fn.ntmps - vs.toArray.size) undef).size = _
    simp; omega
  have hrel : Rel X c (St.init nv args) a0 w := by
    refine ⟨by rw [hN]; exact hsz, fun y hy => ?_, F, bs, [], fun _ h => h, fun y hy => .inl hy, ?_⟩
    · simp only [X, pinsOf, List.mem_filterMap, Option.map_eq_some_iff] at hy
      obtain ⟨i, hi, v, _, rfl⟩ := hy
      exact hi
    · refine ⟨rfl, ?_, fun t => ?_, g2, g3, fun t y hy => ⟨(hbb y (g4 t y hy)).1, (hbb y (g4 t y hy)).2, .inl (g4 t y hy)⟩, List.nodup_nil, fun _ _ _ => by simp, fun _ h => by simp at h, hF, fun _ _ _ => rfl, Nat.le_refl _, rfl, rfl, rfl, fun x hx => ?_⟩
      · rw [hsz]; simp only [St.init, List.length_append, List.length_replicate]; omega
      · rw [init_get, hget]; exact SV.of (g1 t)
      · simp only [X, pinsOf, List.mem_filterMap, Option.map_eq_some_iff] at hx
        obtain ⟨i, hi, v, hv', rfl⟩ := hx
        show (vs.toArray ++ Array.replicate (fn.ntmps - vs.toArray.size) undef)[i]? = some v
        have hil : i < vs.length := by rw [List.getElem?_eq_some_iff] at hv'; exact hv'.1
        rw [Array.getElem?_append_left (by simpa using hil)]
        simpa using hv'
  refine calls_of_wp hf hb ?_
  refine awCode_ok code _ _ (fun e s a w' h' hq => ?_) _ a0 w hrel h
  obtain ⟨he, l, hl, hR0, hargs', hpH⟩ := hq
  generalize hr : tupOf l = r at hR0
  replace hr := hr.symm
  obtain ⟨hN', hp', F', bs', fr', k1, k2, hR⟩ := h'
  have hd' := List.nodup_append.1 hd
  obtain ⟨us, br, m1, m2, m3, m4⟩ := resL_ok hR _ _ hl hd'.1
  have hrun : ∃ v, (results fn a.tmps).run P w' = .ok v w' ∧ RV w' F' r v br := by
    have hm : (fn.results.mapM (resSem a)).run P w' = .ok us.toArray w' := by
      rw [Array.mapM_eq_mapM_toList]
      simp only [Sem.run_map, m1, Result.andThen_ok]
    have hres : results fn a.tmps = (do let vs ← fn.results.mapM (resSem a); pure (if h : vs.size = 1 then vs[0] else .tuple vs) : Sem Value) := by
      unfold results
      congr 1
    rw [hres, Sem.run_bind, hm]
    simp only [Result.andThen_ok, Sem.run_pure]
    have hul := m2.length
    by_cases h1 : us.toArray.size = 1
    · rw [dif_pos h1]
      have hus : us.length = 1 := by simpa using h1
      match us, l, hus, hul, m2 with
      | [u], [x], _, _, m2 =>
        obtain ⟨v, hv, hrv⟩ := m2.single
        simp only [List.cons.injEq, and_true] at hv
        subst hv
        refine ⟨u, rfl, ?_⟩
        rw [hr]; exact hrv
    · rw [dif_neg h1]
      refine ⟨_, rfl, ?_⟩
      have hus : us.length ≠ 1 := by simpa using h1
      have : r = .tup l := by
        rw [hr]
        match l, hul with
        | [], _ => rfl
        | [x], hul => exact absurd (by rw [← hul]; rfl) hus
        | x :: y :: l, _ => rfl
      rw [this]
      exact .tup l us br m2
  obtain ⟨v, hv1, hv2⟩ := hrun
  have hfin : ∃ b', RVs w' F' args' vs b' ∧ b'.Nodup ∧ ∀ y ∈ b', ∃ t ∈ c.pins, y ∈ bs' t := by
    rw [hargs', retArgs]
    have gen : ∀ (n k : Nat) (us : List Value), us = vs.drop k → us.length = n → ∃ b', RVs w' F' ((List.range' k n).map fun i => if c.pins.contains i then s.get i else .undef) us b' ∧ b'.Nodup ∧ (∀ y ∈ b', ∃ t ∈ c.pins, k ≤ t ∧ y ∈ bs' t) := by
      intro n
      induction n with
      | zero => intro k us _ hl'; have := List.eq_nil_of_length_eq_zero hl'; subst this; exact ⟨[], .nil, List.nodup_nil, by simp⟩
      | succ n ih =>
        intro k us hus hl'
        cases us with
        | nil => simp at hl'
        | cons u us =>
          have hk : vs[k]? = some u := by
            have : (vs.drop k)[0]? = some u := by rw [← hus]; rfl
            simpa using this
          have hus' : us = vs.drop (k + 1) := by
            rw [← List.drop_drop, ← hus]; rfl
          obtain ⟨b', i1, i2, i3⟩ := ih (k + 1) us hus' (by simpa using hl')
          rw [List.range'_succ, List.map_cons]
          by_cases hc : c.pins.contains k = true
          · have hkp : k ∈ c.pins := by simpa using hc
            rw [if_pos hc]
            have hpin := hR.pin (k, u) (by
              simp only [X, pinsOf, List.mem_filterMap, Option.map_eq_some_iff]
              exact ⟨k, hkp, u, hk, rfl⟩)
            have hH : (s.get k).isH = false := by
              rw [List.all_eq_true] at hpH
              simpa using hpH k hkp
            have hval := (hR.val k).nonh hH
            have hu : a.tmps.getD k undef = u := by
              rw [Array.getD_eq_getD_getElem?]
              simp only at hpin
              rw [hpin]; rfl
            rw [hu] at hval
            refine ⟨bs' k ++ b', .cons _ _ _ _ _ _ hval i1, ?_, fun y hy => ?_⟩
            · rw [List.nodup_append]
              refine ⟨hR.nd k, i2, fun p hp q hq e => ?_⟩
              subst e
              obtain ⟨t, _, ht, hy⟩ := i3 p hq
              have := hR.dj k t p hp hy
              omega
            · rcases List.mem_append.1 hy with hy | hy
              · exact ⟨k, hkp, Nat.le_refl _, hy⟩
              · obtain ⟨t, h1, h2, h3⟩ := i3 y hy
                exact ⟨t, h1, by omega, h3⟩
          · rw [if_neg hc]
            refine ⟨b', RVs.cons _ _ [] _ _ _ (.undef u) i1, i2, fun y hy => ?_⟩
            obtain ⟨t, h1, h2, h3⟩ := i3 y hy
            exact ⟨t, h1, by omega, h3⟩
    obtain ⟨b', i1, i2, i3⟩ := gen args.length 0 vs rfl hlen.symm
    rw [← List.range_eq_range'] at i1
    exact ⟨b', i1, i2, fun y hy => by obtain ⟨t, h1, _, h3⟩ := i3 y hy; exact ⟨t, h1, h3⟩⟩
  obtain ⟨b', i1, i2, i3⟩ := hfin
  have hpost : a.defers = [] ∧ ∃ v, (results fn a.tmps).run P w' = .ok v w' ∧ ∃ r, R r ∧ ∃ (v' : Value) (F' : Nat → Prop) (b' br : List Nat), Ending.returned v = .returned v' ∧ (∀ y, F y → F' y) ∧ (∀ y, F' y → (F y ∨ y ∈ b ∨ w.heap.size ≤ y) ∧ y < w'.heap.size) ∧
      RVs w' F' args' vs b' ∧ RV w' F' r v' br ∧ (b' ++ br).Nodup ∧ (∀ y ∈ b' ++ br, y < w'.heap.size ∧ ¬ F' y ∧ (y ∈ b ∨ w.heap.size ≤ y)) ∧
      w.heap.size ≤ w'.heap.size ∧ (∀ y, y < w.heap.size → y ∉ b → w'.heap[y]? = w.heap[y]?) ∧ w'.os = w.os ∧ w'.tape = w.tape ∧ w'.output = w.output := by
    refine ⟨hR.df, v, hv1, r, hR0, v, F', b', br, rfl, k1, fun y hy => ⟨k2 y hy, hR.frz y hy⟩, i1, hv2, ?_, fun y hy => ?_, hR.size, hR.keep, hR.os, hR.tape, hR.output⟩
    · rw [List.nodup_append]
      refine ⟨i2, m3, fun p hp q hq e => ?_⟩
      subst e
      obtain ⟨t, ht, hy⟩ := i3 p hp
      obtain ⟨t', ht', hy'⟩ := m4 p hq
      have := hR.dj t t' p hy hy'
      subst this
      exact hd'.2.2 t ht' t ht rfl
    · rcases List.mem_append.1 hy with hy | hy
      · obtain ⟨t, _, hy⟩ := i3 y hy; exact hR.own t y hy
      · obtain ⟨t, _, hy⟩ := m4 y hy; exact hR.own t y hy
  rcases he with rfl | rfl
  · exact hpost
  · exact hpost
end Go.AM
