/- One of the texts of a proof by an abstract machine over the model. -/
import Derived.Test.YthlhjepijodemaaAmG
set_option linter.unusedSimpArgs false
set_option linter.unusedVariables false
namespace Go.AM
open Go

theorem bump_append (q : List Stp) (st : Stp) (j : Nat) : bump (q ++ [st]) j = q ++ [{ st with off := st.off + j }] := by
  induction q with
  | nil => rfl
  | cons s q ih =>
    cases q with
    | nil => rfl
    | cons t q => simp only [List.cons_append, bump]; rw [← List.cons_append, ih]; rfl

section
variable {P : Program} {w0 w w' : World} {A0 : List Nat} {ps : List (Nat × Value)} {F F' : Nat → Prop} {bs bs' : Nat → List Nat} {fr fr' : List Nat} {s s' : St} {a a' : Act}

theorem RV.pureC_nil {c : AV} {v : Value} {b : List Nat} (h : RV w F c v b) (hc : c.pureC = true) : b = [] := by
  cases h <;> first | rfl | (simp [AV.pureC] at hc)
theorem RVs.pureC_nil {cs : List AV} {vs : List Value} {b : List Nat} (h : RVs w F cs vs b) (hc : cs.all AV.pureC = true) : b = [] := by
  match h with
  | .nil => rfl
  | .cons a v b as vs bs h hs =>
    simp only [List.all_cons, Bool.and_eq_true] at hc
    rw [RV.pureC_nil h hc.1, RVs.pureC_nil hs hc.2]; rfl
theorem RV.pureA_nil {c : AV} {v : Value} {b : List Nat} (h : RV w F c v b) (hc : c.pureA = true) : b = [] := by
  cases h <;> first | rfl | (simp [AV.pureA, AV.pureC] at hc; done) | exact RVs.pureC_nil ‹_› hc
theorem RVs.pureA_nil {cs : List AV} {vs : List Value} {b : List Nat} (h : RVs w F cs vs b) (hc : cs.all AV.pureA = true) : b = [] := by
  match h with
  | .nil => rfl
  | .cons a v b as vs bs h hs =>
    simp only [List.all_cons, Bool.and_eq_true] at hc
    rw [RV.pureA_nil h hc.1, RVs.pureA_nil hs hc.2]; rfl
theorem RV.pure_nil {c : AV} {v : Value} {b : List Nat} (h : RV w F c v b) (hc : c.pure = true) : b = [] := by
  cases h <;> first | rfl | (simp [AV.pure, AV.pureC] at hc; done) | exact RVs.pureC_nil ‹_› hc | exact RVs.pureA_nil ‹_› hc

theorem RV.cv {ty : TypeId} {c : Value} : RV w F (cv P ty c) c [] := by
  unfold AM.cv
  split
  · exact .int _ _
  · exact .bool _
  · exact .str _
  · split
    · exact .nils _
    · exact .undef _
  · exact .undef _

/-- what a read operand is -/
theorem ro_plain (h : RelX w0 A0 ps F bs fr s a w) (ty : TypeId) (x : Operand) (hx : (ro P s ty x).v.isH = false) :
    ∃ b, RV w F (ro P s ty x).v (a.eval x) b ∧ ((ro P s ty x).t = none → b = []) ∧ ∀ t, (ro P s ty x).t = some t → b = bs t ∧ s.get t = (ro P s ty x).v ∧ a.eval x = a.tmps.getD t undef := by
  cases x with
  | tmp t =>
    have hv := h.val t
    cases hg : s.get t <;> simp only [ro, hg] at hx ⊢ <;> first
      | (simp [AV.isH] at hx; done)
      | (rw [hg] at hv
         refine ⟨bs t, hv, by simp, fun t' e => ?_⟩
         obtain rfl : t = t' := by simpa using e
         exact ⟨rfl, hg, rfl⟩)
  | const c => exact ⟨[], RV.cv, fun _ => rfl, by simp [ro]⟩
  | func f => exact ⟨[], .fn f, fun _ => rfl, by simp [ro]⟩
  | global g => exact ⟨[], .undef _, fun _ => rfl, by simp [ro]⟩

theorem ro_bor (h : RelX w0 A0 ps F bs fr s a w) (ty : TypeId) (x : Operand) {q : Nat} {p : List Stp} (hx : (ro P s ty x).v = .bor q p) (hok : (ro P s ty x).ok = true) :
    (ro P s ty x).root = s.get q ∧ s.get q ≠ .undef ∧ ∀ c, nodeAt (s.get q) p = some c → c ≠ .undef → valC w (a.tmps.getD q undef) p = some (a.eval x) := by
  cases x with
  | tmp t =>
    have hv := h.val t
    cases hg : s.get t <;> simp only [ro, hg] at hx hok ⊢ <;> try (simp at hx; done)
    case own sz xs =>
      obtain ⟨rfl, rfl⟩ := by simpa using hx
      exact ⟨hg.symm, by rw [hg]; simp, fun _ _ _ => rfl⟩
    case bor r p' =>
      obtain ⟨rfl, rfl⟩ := by simpa using hx
      rw [hg] at hv
      exact ⟨rfl, (hv.2 hok).1, (hv.2 hok).2⟩
  | const c => simp only [ro, cv] at hx; split at hx <;> first | (cases hx; done) | (split at hx <;> cases hx)
  | func f => simp [ro] at hx
  | global g => simp [ro] at hx

theorem ro_loc (h : RelX w0 A0 ps F bs fr s a w) (ty : TypeId) (x : Operand) {r : Nat} {p : List Stp} (hx : (ro P s ty x).v = .loc r p) (hok : (ro P s ty x).ok = true) :
    (ro P s ty x).root = s.get r ∧ s.get r ≠ .undef ∧ ∃ q st, p = q ++ [st] ∧ ∀ c, nodeAt (s.get r) p = some c →
      ∃ base, (valC w (a.tmps.getD r undef) q).bind baseOf = some base ∧ a.eval x = .pointer (some (base.add st.k)) := by
  cases x with
  | tmp t =>
    have hv := h.val t
    cases hg : s.get t <;> simp only [ro, hg] at hx hok ⊢ <;> try (simp at hx; done)
    case box cs =>
      obtain ⟨rfl, rfl⟩ := by simpa using hx
      refine ⟨hg.symm, by rw [hg]; simp, [], ⟨0, 0, 0⟩, rfl, fun c _ => ?_⟩
      rw [hg] at hv
      have hv' : RV w F (.box cs) (a.tmps.getD t undef) (bs t) := hv
      generalize hb : bs t = l at hv'
      generalize hvv : a.tmps.getD t undef = vv at hv'
      cases hv' with
      | box _ g c T b hgg h' =>
        refine ⟨⟨g, 0, none⟩, by simp [valC, baseOf], ?_⟩
        show a.tmps.getD t undef = _
        rw [hvv, add0]; rfl
    case loc r' p' =>
      obtain ⟨rfl, rfl⟩ := by simpa using hx
      rw [hg] at hv
      exact ⟨rfl, (hv.2 hok).1, (hv.2 hok).2⟩
  | const c => simp only [ro, cv] at hx; split at hx <;> first | (cases hx; done) | (split at hx <;> cases hx)
  | func f => simp [ro] at hx
  | global g => simp [ro] at hx

theorem seen_some {c d : AV} (h : c.seen = some d) : c = d ∧ c.isH = false ∧ c ≠ .undef := by
  cases c <;> simp [AV.seen] at h <;> subst h <;> simp [AV.isH]

/-- an operand's content, to be looked at -/
theorem ro_cont (h : RelX w0 A0 ps F bs fr s a w) (ty : TypeId) (x : Operand) {c : AV} (hx : (ro P s ty x).cont = some c) : ∃ b, RV w F c (a.eval x) b := by
  unfold RO.cont at hx
  split at hx
  · rename_i q p hv
    split at hx
    · rename_i hok
      obtain ⟨e1, e2, e3⟩ := ro_bor h ty x hv hok
      rw [e1, Option.bind_eq_some_iff] at hx
      obtain ⟨c', hx, hs⟩ := hx
      obtain ⟨rfl, hcH, hcu⟩ := seen_some hs
      have hval := e3 _ hx hcu
      have hh : (s.get q).isH = false := by
        by_cases hh : (s.get q).isH = true
        · have := nodeAt_isH hh hx
          subst this
          simp only [nodeAt, Option.some.injEq] at hx
          rw [hx, hcH] at hh; cases hh
        · simpa using hh
      obtain ⟨vc, l1, bc, l2, h1, h2, _⟩ := ((h.val q).nonh hh).path p hx
      rw [h1] at hval
      obtain rfl : vc = a.eval x := by simpa using hval
      exact ⟨bc, h2⟩
    · cases hx
  · obtain ⟨e, hH, _⟩ := seen_some hx
    obtain ⟨b, hb, _⟩ := ro_plain h ty x (P := P) hH
    rw [e] at hb
    exact ⟨b, hb⟩

/-- an operand, taken -/
theorem ro_take (h : RelX w0 A0 ps F bs fr s a w) (ty : TypeId) (x : Operand) {c : AV} {wr : Wr} (hx : (ro P s ty x).take = some (c, wr)) :
    ∃ b bs', RV w F c (a.eval x) b ∧ RelX w0 A0 ps F bs' (b ++ fr) (s.apply wr) a w := by
  have plain : ∀ {z : AV}, (ro P s ty x).v = z → z.isH = false → z.pure = true → ∃ b bs', RV w F z (a.eval x) b ∧ RelX w0 A0 ps F bs' (b ++ fr) (s.apply ⟨[], []⟩) a w := by
    intro z hz hH hp
    obtain ⟨b, hb, _⟩ := ro_plain h ty x (P := P) (by rw [hz]; exact hH)
    rw [hz] at hb
    have : b = [] := hb.pure_nil hp
    subst this
    exact ⟨[], bs, hb, h⟩
  unfold RO.take at hx
  split at hx
  · rename_i cs hv
    split at hx
    · rename_i hp
      obtain ⟨rfl, rfl⟩ := by simpa using hx
      exact plain hv rfl hp
    · split at hx
      · rename_i t ht
        obtain ⟨rfl, rfl⟩ := by simpa using hx
        obtain ⟨b, hb, _, h3⟩ := ro_plain h ty x (P := P) (by rw [hv]; rfl)
        obtain ⟨rfl, e1, e2⟩ := h3 t ht
        rw [hv] at e1 hb
        obtain ⟨g1, g2⟩ := h.take (t := t) (by rw [e1]; rfl)
        exact ⟨bs t, _, hb, g2⟩
      · cases hx
  · rename_i q p hv
    split at hx
    · rename_i hok
      obtain ⟨e1, e2, e3⟩ := ro_bor h ty x hv hok
      rw [e1] at hx
      split at hx
      · rename_i sz xs hn
        obtain ⟨rfl, rfl⟩ := by simpa using hx
        have hh : (s.get q).isH = false := by
          by_cases hh : (s.get q).isH = true
          · have := nodeAt_isH hh hn
            subst this
            simp only [nodeAt, Option.some.injEq] at hn
            rw [hn] at hh; cases hh
          · simpa using hh
        obtain ⟨vc, l1, bc, l2, h1, h2, h3, h4⟩ := h.takeAt hn hh
        have hval := e3 _ hn (by simp)
        rw [h1] at hval
        obtain rfl : vc = a.eval x := by simpa using hval
        exact ⟨bc, _, h2, h4⟩
      · cases hx
    · cases hx
  · rename_i hn1 hn2
    split at hx
    · rename_i hp
      simp only [Option.some.injEq, Prod.mk.injEq] at hx
      obtain ⟨e, rfl⟩ := hx
      rw [← e]
      refine plain rfl ?_ hp
      generalize (ro P s ty x).v = z at *
      cases z <;> first | rfl | (simp [AV.pure, AV.pureC] at hp)
    · cases hx
end
end Go.AM
