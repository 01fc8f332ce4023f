/- One of the texts of a proof by an abstract machine over the model. -/
import Derived.Test.YtmhkendlllmodaaGreatDoorFmO
set_option linter.unusedSimpArgs false
set_option linter.unusedVariables false
namespace Go.FM
open Go

/-! ### new names for old ones: what no slot leads to is forgotten -/
mutual
def ren (β : Loc → Option Loc) : FV → FV
  | .ptr l sz i off => match β l with
    | some k => .ptr k sz i off
    | none => .undef
  | .sl l sz off len => match β l with
    | some k => .sl k sz off len
    | none => .nils
  | .mp l => match β l with
    | some k => .mp k
    | none => .undef
  | .agg cs => .agg (rens β cs)
  | .tup cs => .tup (rens β cs)
  | .clo f a b => .clo f (rens β a) (rens β b)
  | v => v
def rens (β : Loc → Option Loc) : List FV → List FV
  | [] => []
  | v :: vs => ren β v :: rens β vs
end
mutual
def inn (β : Loc → Option Loc) (U : Loc → Prop) : FV → Prop
  | .ptr l _ _ _ => U l ∧ (β l).isSome = true
  | .sl l _ _ len => U l ∧ ((β l).isSome = true ∨ len = 0)
  | .mp l => U l ∧ (β l).isSome = true
  | .agg cs => inns β U cs
  | .tup cs => inns β U cs
  | .clo _ a b => inns β U a ∧ inns β U b
  | .list _ xs => nlss xs = true
  | .ref cs => nls cs = true
  | _ => True
def inns (β : Loc → Option Loc) (U : Loc → Prop) : List FV → Prop
  | [] => True
  | v :: vs => inn β U v ∧ inns β U vs
end
section
variable {w : World} {F : Nat → Prop} {U U' : Loc → Prop} {m m' : Loc → Nat × Nat} {β : Loc → Option Loc}
mutual
theorem RF.ren {a : FV} {v : Value} (h : RF w F U m (ren β a) v) (ha : inn β U' a) (hm : ∀ l, U' l → m' l = match β l with | some k => m k | none => (0, 0)) : RF w F U' m' a v := by
  match a with
  | .ptr l sz i off =>
    simp only [inn, Option.isSome_iff_exists] at ha
    obtain ⟨hu, k, hk⟩ := ha
    have h1 := hm l hu
    simp only [hk] at h1
    simp only [FM.ren, hk] at h
    cases h with
    | ptr _ _ _ _ hu' => rw [← h1]; exact .ptr l sz i off hu
  | .sl l sz off len =>
    simp only [inn, Option.isSome_iff_exists] at ha
    obtain ⟨hu, ha⟩ := ha
    have h1 := hm l hu
    cases hk : β l with
    | none =>
      rw [hk] at ha
      have h0 : len = 0 := by
        rcases ha with ⟨k, h⟩ | h
        · cases h
        · exact h
      subst h0
      simp only [hk] at h1
      simp only [FM.ren, hk] at h
      cases h with
      | nils => exact .sl0 l sz off hu (by rw [h1])
    | some k =>
      simp only [hk] at h1
      simp only [FM.ren, hk] at h
      cases h with
      | sl _ _ _ _ cap o hu' hc ho hs => rw [← h1] at hs ⊢; exact .sl l sz off len cap o hu hc ho hs
      | sl0 _ _ _ hu' h0 => exact .sl0 l sz off hu (by rw [h1]; exact h0)
  | .mp l =>
    simp only [inn, Option.isSome_iff_exists] at ha
    obtain ⟨hu, k, hk⟩ := ha
    have h1 := hm l hu
    simp only [hk] at h1
    simp only [FM.ren, hk] at h
    cases h with
    | mp _ hu' => rw [← h1]; exact .mp l hu
  | .agg cs =>
    simp only [FM.ren] at h
    cases h with
    | agg _ vs h => exact .agg cs vs (RFs.ren h ha hm)
  | .tup cs =>
    simp only [FM.ren] at h
    cases h with
    | tup _ vs h => exact .tup cs vs (RFs.ren h ha hm)
  | .clo f x y =>
    simp only [FM.ren] at h
    cases h with
    | clo _ _ _ us vs h1 h2 => exact .clo f x y us vs (RFs.ren h1 ha.1 hm) (RFs.ren h2 ha.2 hm)
  | .list sz xs => simp only [FM.ren] at h; exact h.nameless (by simpa [nl, inn] using ha) _ _
  | .ref cs => simp only [FM.ren] at h; exact h.nameless (by simpa [nl, inn] using ha) _ _
  | .undef => exact h.nameless rfl _ _
  | .int .. => exact h.nameless rfl _ _
  | .bool _ => exact h.nameless rfl _ _
  | .str _ => exact h.nameless rfl _ _
  | .nilp => exact h.nameless rfl _ _
  | .nils => exact h.nameless rfl _ _
  | .nilm => exact h.nameless rfl _ _
  | .nilf => exact h.nameless rfl _ _
  | .emp => exact h.nameless rfl _ _
theorem RFs.ren {as : List FV} {vs : List Value} (h : RFs w F U m (rens β as) vs) (ha : inns β U' as) (hm : ∀ l, U' l → m' l = match β l with | some k => m k | none => (0, 0)) : RFs w F U' m' as vs := by
  match as with
  | [] => simp only [rens] at h; cases h; exact .nil
  | a :: as =>
    simp only [rens] at h
    cases h with
    | cons _ v _ vs h hs => exact .cons a v as vs (RF.ren h ha.1 hm) (RFs.ren hs ha.2 hm)
end
/-- rows -/
def renss (β : Loc → Option Loc) : List (List FV) → List (List FV)
  | [] => []
  | v :: vs => rens β v :: renss β vs
def innss (β : Loc → Option Loc) (U : Loc → Prop) : List (List FV) → Prop
  | [] => True
  | v :: vs => inns β U v ∧ innss β U vs
def rene (β : Loc → Option Loc) : List (FV × FV × Nat) → List (FV × FV × Nat)
  | [] => []
  | (k, v, n) :: es => (ren β k, ren β v, n) :: rene β es
def inne (β : Loc → Option Loc) (U : Loc → Prop) : List (FV × FV × Nat) → Prop
  | [] => True
  | (k, v, _) :: es => (inn β U k ∧ inn β U v) ∧ inne β U es
def renO (β : Loc → Option Loc) : FO → FO
  | .cells T sz xs => .cells T sz (renss β xs)
  | .map es clk => .map (rene β es) clk
  | .iter x a b c => .iter (ren β x) a b c
  | .dead => .dead
def innO (β : Loc → Option Loc) (U : Loc → Prop) : FO → Prop
  | .cells _ _ xs => innss β U xs
  | .map es _ => inne β U es
  | .iter x _ _ _ => inn β U x
  | .dead => True
theorem rens_length (as : List FV) : (rens β as).length = as.length := by
  induction as with
  | nil => rfl
  | cons a as ih => simp [rens, ih]
theorem renss_length (xs : List (List FV)) : (renss β xs).length = xs.length := by
  induction xs with
  | nil => rfl
  | cons a as ih => simp [renss, ih]
theorem renss_mem {sz : Nat} {xs : List (List FV)} (h : ∀ x ∈ renss β xs, x.length = sz) : ∀ x ∈ xs, x.length = sz := by
  induction xs with
  | nil => intro x hx; cases hx
  | cons a as ih =>
    simp only [renss, List.mem_cons, forall_eq_or_imp, rens_length] at h ⊢
    exact ⟨h.1, ih h.2⟩
theorem RFs.renss {xs : List (List FV)} {vs : List Value} (h : RFs w F U m (renss β xs).flatten vs) (ha : innss β U' xs) (hm : ∀ l, U' l → m' l = match β l with | some k => m k | none => (0, 0)) : RFs w F U' m' xs.flatten vs := by
  induction xs generalizing vs with
  | nil => simp only [FM.renss, List.flatten_nil] at h ⊢; cases h; exact .nil
  | cons a as ih =>
    simp only [FM.renss, List.flatten_cons] at h ⊢
    obtain ⟨v1, v2, rfl, h1, h2⟩ := RFs.part _ _ h
    exact (h1.ren ha.1 hm).append (ih h2 ha.2)
theorem REs.rene {es : List (FV × FV × Nat)} {xs : List MapEntry} (h : REs w F U m (rene β es) xs) (ha : inne β U' es) (hm : ∀ l, U' l → m' l = match β l with | some k => m k | none => (0, 0)) : REs w F U' m' es xs := by
  induction es generalizing xs with
  | nil => simp only [FM.rene] at h; cases h; exact .nil
  | cons e es ih =>
    obtain ⟨k, v, n⟩ := e
    simp only [FM.rene] at h
    cases h with
    | cons _ x _ xs h hs => exact .cons _ x es xs ⟨h.key.ren ha.1.1 hm, h.val.ren ha.1.2 hm, h.born⟩ (ih hs ha.2)
mutual
theorem ren_nl {a : FV} (h : nl a = true) : ren β a = a := by
  match a with
  | .ptr .. => simp [nl] at h
  | .sl .. => simp [nl] at h
  | .mp .. => simp [nl] at h
  | .agg cs => simp only [nl] at h; simp only [ren, rens_nl h]
  | .tup cs => simp only [nl] at h; simp only [ren, rens_nl h]
  | .clo f x y => simp only [nl, Bool.and_eq_true] at h; simp only [ren, rens_nl h.1, rens_nl h.2]
  | .list .. => rfl
  | .ref .. => rfl
  | .undef => rfl
  | .int .. => rfl
  | .bool _ => rfl
  | .str _ => rfl
  | .nilp => rfl
  | .nils => rfl
  | .nilm => rfl
  | .nilf => rfl
  | .emp => rfl
theorem rens_nl {as : List FV} (h : nls as = true) : rens β as = as := by
  match as with
  | [] => rfl
  | a :: as => simp only [nls, Bool.and_eq_true] at h; simp only [rens, ren_nl h.1, rens_nl h.2]
end
mutual
theorem inn_nl {a : FV} (h : nl a = true) : inn β U a := by
  match a with
  | .ptr .. => simp [nl] at h
  | .sl .. => simp [nl] at h
  | .mp .. => simp [nl] at h
  | .agg cs => simp only [nl] at h; exact inns_nl h
  | .tup cs => simp only [nl] at h; exact inns_nl h
  | .clo f x y => simp only [nl, Bool.and_eq_true] at h; exact ⟨inns_nl h.1, inns_nl h.2⟩
  | .list .. => simpa [nl, inn] using h
  | .ref .. => simpa [nl, inn] using h
  | .undef => trivial
  | .int .. => trivial
  | .bool _ => trivial
  | .str _ => trivial
  | .nilp => trivial
  | .nils => trivial
  | .nilm => trivial
  | .nilf => trivial
  | .emp => trivial
theorem inns_nl {as : List FV} (h : nls as = true) : inns β U as := by
  match as with
  | [] => trivial
  | a :: as => simp only [nls, Bool.and_eq_true] at h; exact ⟨inn_nl h.1, inns_nl h.2⟩
end
theorem renss_nl {xs : List (List FV)} (h : nlss xs = true) : renss β xs = xs := by
  induction xs with
  | nil => rfl
  | cons a as ih => simp only [nlss, Bool.and_eq_true] at h; simp only [renss, rens_nl h.1, ih h.2]
theorem innss_nl {xs : List (List FV)} (h : nlss xs = true) : innss β U xs := by
  induction xs with
  | nil => trivial
  | cons a as ih => simp only [nlss, Bool.and_eq_true] at h; exact ⟨inns_nl h.1, ih h.2⟩
theorem nlss_append (xs ys : List (List FV)) : nlss (xs ++ ys) = (nlss xs && nlss ys) := by
  induction xs with
  | nil => rfl
  | cons a as ih => simp [nlss, ih, Bool.and_assoc]
def nle (es : List (FV × FV × Nat)) : Bool := es.all fun e => nl e.1 && nl e.2.1
theorem nle_nil : nle [] = true := rfl
theorem nle_cons (e : FV × FV × Nat) (es : List (FV × FV × Nat)) : nle (e :: es) = ((nl e.1 && nl e.2.1) && nle es) := rfl
theorem nle_append (xs ys : List (FV × FV × Nat)) : nle (xs ++ ys) = (nle xs && nle ys) := by simp [nle]
theorem rene_nl {es : List (FV × FV × Nat)} (h : nle es = true) : rene β es = es := by
  induction es with
  | nil => rfl
  | cons e es ih =>
    obtain ⟨k, v, n⟩ := e
    simp only [nle, List.all_cons, Bool.and_eq_true] at h
    simp only [rene, ren_nl h.1.1, ren_nl h.1.2, ih h.2]
theorem inne_nl {es : List (FV × FV × Nat)} (h : nle es = true) : inne β U es := by
  induction es with
  | nil => trivial
  | cons e es ih =>
    obtain ⟨k, v, n⟩ := e
    simp only [nle, List.all_cons, Bool.and_eq_true] at h
    exact ⟨⟨inn_nl h.1.1, inn_nl h.1.2⟩, ih h.2⟩
end

section
variable {X : Ctx} {c : Cfg} {w : World} {F : Nat → Prop} {m : Loc → Nat × Nat} {s s1 : FS} {a : Act}
theorem gk_sim (β : Loc → Option Loc) (hv : s1.vars.length = s.vars.length) (ht : ∀ t, s1.get t = .undef ∨ (ren β (s1.get t) = s.get t ∧ inn β (fun l => s1.H l ≠ none) (s1.get t)))
    (hH : ∀ l o, s1.H l = some o → o = .dead ∨ (∃ k, β l = some k ∧ s.H k = some (renO β o) ∧ innO β (fun l => s1.H l ≠ none) o) ∨ (β l = none ∧ ∃ T sz, o = .cells T sz []))
    (hinj : ∀ l l' k, s1.H l ≠ none → s1.H l' ≠ none → β l = some k → β l' = some k → l = l')
    (hL : ∀ l, c.L l → s.H l ≠ none → s1.H l ≠ none ∧ β l = some l) : Gk c s1 s := by
  rintro X a w ⟨hN, F, m, h1, h2, h⟩
  let m' : Loc → Nat × Nat := fun l => match β l with | some k => m k | none => (0, 0)
  have hm : ∀ l, s1.H l ≠ none → m' l = match β l with | some k => m k | none => (0, 0) := fun _ _ => rfl
  have hlive : ∀ l, Live s1.H m' l → ∃ k, β l = some k ∧ m' l = m k ∧ Live s.H m k := fun l ⟨o, g1, g2, g3⟩ => by
    rcases hH l o g1 with rfl | ⟨k, k1, k2, k3⟩ | ⟨k1, _⟩
    · exact absurd rfl g2
    · have e : m' l = m k := by simp only [m', k1]
      refine ⟨k, k1, e, _, k2, ?_, e ▸ g3⟩
      cases o <;> simp [renO] at g2 ⊢
    · exact absurd (by simp only [m', k1]) g3
  refine ⟨hN, F, m', h1, h2, ?_⟩
  refine { df := h.df, vsz := by rw [hv]; exact h.vsz, val := fun t => ?_, heap := ⟨fun l o ho => ?_, fun k k' hk hk' e => ?_, fun k hk => ?_⟩, own := fun l hl => ?_,
           ext := fun l hl => (hL l (h1.hd l hl) (h.ext l hl)).1, mfix := fun l hl => ?_, frz := h.frz, keep := h.keep, size := h.size, os := h.os, tape := h.tape, output := h.output }
  · rcases ht t with e | ⟨e1, e2⟩
    · rw [e]; exact .undef _
    · exact RF.ren (by rw [e1]; exact h.val t) e2 hm
  · rcases hH l o ho with rfl | ⟨k, k1, k2, k3⟩ | ⟨k1, T, sz, rfl⟩
    · trivial
    · have hob := h.heap.obj k _ k2
      have e : m' l = m k := by simp only [m', k1]
      cases o with
      | cells T sz xs =>
        simp only [renO, OR] at hob ⊢
        rw [e]
        rcases hob with ⟨b1, b2⟩ | ⟨b0, cc, b1, b2, b3, b4, b5⟩
        · left
          refine ⟨?_, b2⟩
          have := renss_length (β := β) xs
          rw [b1] at this
          exact List.eq_nil_of_length_eq_zero this.symm
        · right
          rw [renss_length] at b4 b5
          exact ⟨b0, cc, b1, b2, renss_mem b3, b4, b5.renss k3 hm⟩
      | map es clk =>
        simp only [renO, OR] at hob ⊢
        rw [e]
        obtain ⟨b0, aa, b1, b2⟩ := hob
        exact ⟨b0, aa, b1, b2.rene k3 hm⟩
      | iter x q r t =>
        simp only [renO, OR] at hob ⊢
        rw [e]
        obtain ⟨b0, aa, b1, b2⟩ := hob
        exact ⟨b0, aa, b1.ren k3 hm, b2⟩
      | dead => trivial
    · left; exact ⟨rfl, by simp only [m', k1]⟩
  · obtain ⟨q, q1, q2, q3⟩ := hlive k hk
    obtain ⟨q', q1', q2', q3'⟩ := hlive k' hk'
    have e2 : q = q' := h.heap.inj q q' q3 q3' (by rw [← q2, ← q2']; exact e)
    subst e2
    obtain ⟨o, g1, _⟩ := hk
    obtain ⟨o', g1', _⟩ := hk'
    exact hinj k k' q (by simp [g1]) (by simp [g1']) q1 q1'
  · obtain ⟨q, q1, q2, q3⟩ := hlive k hk
    rw [q2]; exact h.heap.old q q3
  · obtain ⟨q, q1, q2, q3⟩ := hlive l hl
    rw [q2]; exact h.own q q3
  · obtain ⟨_, e⟩ := hL l (h1.hd l hl) (h.ext l hl)
    show (match β l with | some k => m k | none => (0, 0)) = _
    rw [e]; exact h.mfix l hl
end

/-! ### the same, as lists -/
def hpL : List (Loc × FO) → Heap
  | [] => noH
  | (l, o) :: r => upd (hpL r) l o
theorem hpL_at (l : Loc) (o : FO) (r : List (Loc × FO)) (k : Loc) : hpL ((l, o) :: r) k = if k = l then some o else hpL r k := rfl
theorem hpL_nil (k : Loc) : hpL [] k = none := rfl
def bk : List (Loc × Option Loc) → Loc → Option Loc
  | [], l => some l
  | (k, o) :: r, l => if l = k then o else bk r l
def simV (β : Loc → Option Loc) (U : Loc → Prop) (v1 v : FV) : Prop := v1 = .undef ∨ (ren β v1 = v ∧ inn β U v1)
def simVs (β : Loc → Option Loc) (U : Loc → Prop) : List FV → List FV → Prop
  | v1 :: r1, v :: r => simV β U v1 v ∧ simVs β U r1 r
  | [], [] => True
  | _, _ => False
def simT (β : Loc → Option Loc) (U : Loc → Prop) (n : Nat) (tm : Asg) : Asg → Prop
  | [] => True
  | (t, v) :: r => (n ≤ t ∧ simV β U v (lk tm t)) ∧ simT β U n tm r
def simO (β : Loc → Option Loc) (U : Loc → Prop) (H : Heap) (l : Loc) (o : FO) : Prop := match β l with
  | some k => H k = some (renO β o) ∧ innO β U o
  | none => match o with
    | .cells _ _ [] => True
    | _ => False
def simH (β : Loc → Option Loc) (U : Loc → Prop) (H : Heap) : List (Loc × FO) → Prop
  | [] => True
  | (l, o) :: r => simO β U H l o ∧ simH β U H r
def injB (β : Loc → Option Loc) : List Loc → Bool
  | [] => true
  | l :: r => (match β l with | some k => r.all fun l' => l' == l || !(β l' == some k) | none => true) && injB β r
theorem hpL_mem : ∀ (L : List (Loc × FO)) (l : Loc) (o : FO), hpL L l = some o → (l, o) ∈ L
  | [], l, o, h => by cases h
  | (k, x) :: r, l, o, h => by
    simp only [hpL, upd] at h
    split at h
    · rename_i e; subst e; obtain rfl := Option.some.inj h; exact List.mem_cons_self
    · exact List.mem_cons_of_mem _ (hpL_mem r l o h)
theorem simH_mem {β : Loc → Option Loc} {U : Loc → Prop} {H : Heap} : ∀ {L : List (Loc × FO)}, simH β U H L → ∀ p ∈ L, simO β U H p.1 p.2
  | [], _, p, hp => by cases hp
  | (k, x) :: r, h, p, hp => by
    rcases List.mem_cons.1 hp with rfl | hp
    · exact h.1
    · exact simH_mem h.2 p hp
theorem injB_mem {β : Loc → Option Loc} : ∀ {L : List Loc}, injB β L = true → ∀ l ∈ L, ∀ l' ∈ L, ∀ k, β l = some k → β l' = some k → l = l'
  | [], _, l, hl, _, _, _, _, _ => by cases hl
  | a :: r, h, l, hl, l', hl', k, e, e' => by
    simp only [injB, Bool.and_eq_true] at h
    obtain ⟨h1, h2⟩ := h
    have key : ∀ x ∈ r, β a = some k → β x = some k → x = a := fun x hx ea ex => by
      rw [ea] at h1
      have := List.all_eq_true.1 h1 x hx
      simp only [Bool.or_eq_true, beq_iff_eq, Bool.not_eq_true', ex] at this
      rcases this with h | h
      · exact h
      · simp at h
    rcases List.mem_cons.1 hl with rfl | hl1
    · rcases List.mem_cons.1 hl' with rfl | hl2
      · rfl
      · exact (key l' hl2 e e').symm
    · rcases List.mem_cons.1 hl' with rfl | hl2
      · exact key l hl1 e' e
      · exact injB_mem h2 l hl1 l' hl2 k e e'
theorem simVs_get {β : Loc → Option Loc} {U : Loc → Prop} : ∀ {l1 l : List FV}, simVs β U l1 l → l1.length = l.length ∧ ∀ t, t < l.length → simV β U (l1.getD t .undef) (l.getD t .undef)
  | [], [], _ => ⟨rfl, fun t h => by cases h⟩
  | [], _ :: _, h => h.elim
  | _ :: _, [], h => h.elim
  | v1 :: r1, v :: r, h => by
    obtain ⟨g1, g2⟩ := simVs_get h.2
    refine ⟨by simp [g1], fun t ht => ?_⟩
    cases t with
    | zero => simpa using h.1
    | succ t => simpa using g2 t (by simpa using ht)
theorem simT_get {β : Loc → Option Loc} {U : Loc → Prop} {n : Nat} {tm : Asg} : ∀ {l : Asg}, simT β U n tm l → ∀ t, lk l t = .undef ∨ (n ≤ t ∧ simV β U (lk l t) (lk tm t))
  | [], _, t => .inl rfl
  | (k, v) :: r, h, t => by
    simp only [lk]
    split
    · rename_i e; subst e; exact .inr h.1
    · exact simT_get h.2 t
theorem gk_lst {c : Cfg} {vs1 vs : List FV} {tm1 tm : Asg} {L : List (Loc × FO)} {H : Heap} {ix1 ix : List Nat} (b : List (Loc × Option Loc)) (hc : ∀ l, ¬ c.L l) (hinj : injB (bk b) (L.map Prod.fst) = true) (hv : simVs (bk b) (fun l => hpL L l ≠ none) vs1 vs)
    (ht : simT (bk b) (fun l => hpL L l ≠ none) vs.length tm tm1) (hH : simH (bk b) (fun l => hpL L l ≠ none) H L) : Gk c (FS.mk vs1 tm1 (hpL L) ix1) ⟨vs, tm, H, ix⟩ := by
  obtain ⟨g1, g2⟩ := simVs_get hv
  have hdom : ∀ l, hpL L l ≠ none → l ∈ L.map Prod.fst := fun l hl => by
    cases h : hpL L l with
    | none => exact absurd h hl
    | some o => exact List.mem_map.2 ⟨_, hpL_mem L l o h, rfl⟩
  refine gk_sim (bk b) g1 (fun t => ?_) (fun l o ho => ?_) (fun l l' k h1 h2 => injB_mem hinj l (hdom l h1) l' (hdom l' h2) k) (fun l hl => absurd hl (hc l))
  · simp only [FS.get]
    rw [g1]
    split
    · rename_i hlt
      exact g2 t hlt
    · rcases simT_get ht t with h | h
      · exact .inl h
      · exact h.2
  · have h1 := simH_mem hH _ (hpL_mem L l o ho)
    unfold simO at h1
    split at h1
    · rename_i k hk; exact .inr (.inl ⟨k, hk, h1.1, h1.2⟩)
    · rename_i hk
      split at h1
      · rename_i T sz e; exact .inr (.inr ⟨hk, T, sz, e⟩)
      · exact h1.elim
end Go.FM
