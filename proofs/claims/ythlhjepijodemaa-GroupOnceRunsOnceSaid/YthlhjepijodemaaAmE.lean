/- One of the texts of a proof by an abstract machine over the model. -/
import Derived.Test.YthlhjepijodemaaAmD
set_option linter.unusedSimpArgs false
set_option linter.unusedVariables false
namespace Go.AM
open Go

def upd (bs : Nat → List Nat) (d : Nat) (b : List Nat) : Nat → List Nat := fun t => if t = d then b else bs t
theorem upd_same (bs : Nat → List Nat) (d : Nat) (b : List Nat) : upd bs d b d = b := by simp [upd]
theorem upd_other (bs : Nat → List Nat) {d t : Nat} (b : List Nat) (h : t ≠ d) : upd bs d b t = bs t := by simp [upd, h]

theorem lk_cons (l : Asg) (d t : Nat) (x : AV) : lk ((d, x) :: l) t = if d = t then x else lk l t := rfl
theorem get_put (s : St) (d t : Nat) (x : AV) : (s.put d x).get t = if t = d then x else s.get t := by
  unfold St.put
  split
  · rename_i h
    simp only [St.get, List.length_set]
    by_cases e : t = d
    · subst e; simp [h]
    · simp only [e, if_false]
      split
      · rw [List.getD_eq_getElem?_getD, List.getD_eq_getElem?_getD, List.getElem?_set_ne (Ne.symm e)]
      · rfl
  · rename_i h
    simp only [St.get]
    by_cases e : t = d
    · subst e; simp [h, lk_cons]
    · simp only [e, if_false, lk_cons, Ne.symm e]
theorem vars_put (s : St) (d : Nat) (x : AV) : (s.put d x).vars.length = s.vars.length := by
  unfold St.put; split <;> simp
theorem D_put (s : St) (d : Nat) (x : AV) : (s.put d x).D = s.D := by
  unfold St.put; split <;> rfl

theorem getD_put (a : Act) (d t : Nat) (v : Value) (hd : d < a.tmps.size) : (a.put (some d) v).tmps.getD t undef = if t = d then v else a.tmps.getD t undef := by
  simp only [Act.put, Array.getD_eq_getD_getElem?]
  by_cases e : t = d
  · subst e; simp [hd]
  · rw [Array.getElem?_setIfInBounds_ne (Ne.symm e)]; simp [e]

section
variable {w0 w w' : World} {A0 : List Nat} {ps : List (Nat × Value)} {F F' : Nat → Prop} {bs bs' : Nat → List Nat} {fr fr' : List Nat} {s s' : St} {a a' : Act}

theorem RelX.change (h : RelX w0 A0 ps F bs fr s a w) (C : Nat → Prop) (hdf : a'.defers = []) (hvsz : s'.vars.length ≤ a'.tmps.size)
    (hs : ∀ t, ¬ C t → s'.get t = s.get t ∧ a'.tmps.getD t undef = a.tmps.getD t undef ∧ bs' t = bs t)
    (hD : ∀ r dep, liveB s'.D r dep = true → liveB s.D r dep = true)
    (hF : ∀ b, F b → F' b ∧ w'.heap[b]? = w.heap[b]?)
    (hb : ∀ t b, ¬ C t → b ∈ bs t → w'.heap[b]? = w.heap[b]?)
    (hC : ∀ t, C t → SV F' s' a' w' (s'.get t) (a'.tmps.getD t undef) (bs' t) ∧ (bs' t).Nodup)
    (hr : ∀ r, C r → RootOk s s' a a' w w' r)
    (hdj : ∀ t t' b, b ∈ bs' t → b ∈ bs' t' → t = t')
    (hown : ∀ t b, b ∈ bs' t → b < w'.heap.size ∧ ¬ F' b ∧ (b ∈ A0 ∨ w0.heap.size ≤ b))
    (hfnd : fr'.Nodup) (hfdj : ∀ t b, b ∈ bs' t → b ∉ fr') (hfown : ∀ b ∈ fr', b < w'.heap.size ∧ ¬ F' b ∧ (b ∈ A0 ∨ w0.heap.size ≤ b))
    (hfrz : ∀ b, F' b → b < w'.heap.size) (hkeep : ∀ b, b < w0.heap.size → b ∉ A0 → w'.heap[b]? = w.heap[b]?) (hsize : w.heap.size ≤ w'.heap.size)
    (hos : w'.os = w.os) (htape : w'.tape = w.tape) (hout : w'.output = w.output) (hpin : ∀ x ∈ ps, a'.tmps[x.1]? = a.tmps[x.1]?) :
    RelX w0 A0 ps F' bs' fr' s' a' w' where
  df := hdf
  vsz := hvsz
  val := fun t => by
    by_cases hc : C t
    · exact (hC t hc).1
    · obtain ⟨e1, e2, e3⟩ := hs t hc
      rw [e1, e2, e3]
      exact SV.change h.val (h.val t) (fun t ht => ⟨(hs t ht).1, (hs t ht).2.1⟩) hD hF hb (fun y hy => hb t y hc hy) hr
  nd := fun t => by
    by_cases hc : C t
    · exact (hC t hc).2
    · rw [(hs t hc).2.2]; exact h.nd t
  dj := hdj
  own := hown
  fnd := hfnd
  fdj := hfdj
  fown := hfown
  frz := hfrz
  keep := fun b hb1 hb2 => (hkeep b hb1 hb2).trans (h.keep b hb1 hb2)
  size := Nat.le_trans h.size hsize
  os := hos.trans h.os
  tape := htape.trans h.tape
  output := hout.trans h.output
  pin := fun x hx => (hpin x hx).trans (h.pin x hx)

theorem RelX.bs_undef (h : RelX w0 A0 ps F bs fr s a w) {d : Nat} (hd : s.get d = .undef) : bs d = [] := by
  have h1 := h.val d
  rw [hd] at h1
  have h2 : RV w F .undef (a.tmps.getD d undef) (bs d) := h1
  generalize bs d = l at h2
  cases h2
  rfl

/-- a slot that holds nothing is written: an owned value, its blocks taken out of the free ones -/
theorem RelX.put {b : List Nat} (h : RelX w0 A0 ps F bs (b ++ fr) s a w) {d : Nat} {x : AV} {v : Value} (hd : s.get d = .undef) (hdz : d < a.tmps.size) (hdp : ∀ y ∈ ps, y.1 ≠ d)
    (hx : RV w F x v b) : RelX w0 A0 ps F (upd bs d b) fr (s.put d x) (a.put (some d) v) w := by
  have hbd := h.bs_undef hd
  have hfn := List.nodup_append.1 h.fnd
  refine h.change (fun t => t = d) h.df (by rw [vars_put]; simpa [Act.put] using h.vsz) (fun t ht => ?_) (fun r dep hl => by rwa [D_put] at hl) (fun b hb => ⟨hb, rfl⟩) (fun _ _ _ _ => rfl)
    (fun t ht => ?_) (fun r hr => ?_) (fun t t' y hy hy' => ?_) (fun t y hy => ?_) hfn.2.1 (fun t y hy => ?_) (fun y hy => h.fown y (by simp [hy])) h.frz (fun _ _ _ => rfl) (Nat.le_refl _) rfl rfl rfl
    (fun y hy => ?_)
  · have ht' : t ≠ d := ht
    rw [get_put, getD_put _ _ _ _ hdz, if_neg ht', if_neg ht', upd_other _ _ ht']
    exact ⟨rfl, rfl, rfl⟩
  · obtain rfl : t = d := ht
    rw [get_put, getD_put _ _ _ _ hdz, if_pos rfl, if_pos rfl, upd_same]
    exact ⟨SV.of hx, hfn.1⟩
  · obtain rfl : r = d := hr
    exact .inl hd
  · by_cases e : t = d <;> by_cases e' : t' = d
    · rw [e, e']
    · subst e; rw [upd_same] at hy; rw [upd_other _ _ e'] at hy'
      exact absurd (by simp [hy] : y ∈ b ++ fr) (h.fdj t' y hy')
    · subst e'; rw [upd_same] at hy'; rw [upd_other _ _ e] at hy
      exact absurd (by simp [hy'] : y ∈ b ++ fr) (h.fdj t y hy)
    · rw [upd_other _ _ e] at hy; rw [upd_other _ _ e'] at hy'
      exact h.dj t t' y hy hy'
  · by_cases e : t = d
    · subst e; rw [upd_same] at hy; exact h.fown y (by simp [hy])
    · rw [upd_other _ _ e] at hy; exact h.own t y hy
  · by_cases e : t = d
    · subst e; rw [upd_same] at hy; exact fun hf => hfn.2.2 y hy y hf rfl
    · rw [upd_other _ _ e] at hy; exact fun hf => h.fdj t y hy (by simp [hf])
  · simp only [Act.put]
    rw [Array.getElem?_setIfInBounds_ne (Ne.symm (hdp y hy))]

/-- a handle is written into a slot that holds nothing -/
theorem RelX.putH (h : RelX w0 A0 ps F bs fr s a w) {d : Nat} {x : AV} {v : Value} (hd : s.get d = .undef) (hdz : d < a.tmps.size) (hdp : ∀ y ∈ ps, y.1 ≠ d)
    (hx : SV F s a w x v []) : RelX w0 A0 ps F bs fr (s.put d x) (a.put (some d) v) w := by
  have hbd := h.bs_undef hd
  have hroot : ∀ r, r = d → RootOk s (s.put d x) a (a.put (some d) v) w w r := fun r hr => .inl (by rw [hr]; exact hd)
  have hs : ∀ t, ¬ t = d → (s.put d x).get t = s.get t ∧ (a.put (some d) v).tmps.getD t undef = a.tmps.getD t undef := fun t ht => by
    rw [get_put, getD_put _ _ _ _ hdz, if_neg ht, if_neg ht]; exact ⟨rfl, rfl⟩
  refine h.change (fun t => t = d) h.df (by rw [vars_put]; simpa [Act.put] using h.vsz) (fun t ht => ⟨(hs t ht).1, (hs t ht).2, rfl⟩) (fun r dep hl => by rwa [D_put] at hl) (fun b hb => ⟨hb, rfl⟩) (fun _ _ _ _ => rfl)
    (fun t ht => ?_) hroot h.dj h.own h.fnd h.fdj h.fown h.frz (fun _ _ _ => rfl) (Nat.le_refl _) rfl rfl rfl (fun y hy => ?_)
  · obtain rfl : t = d := ht
    rw [get_put, getD_put _ _ _ _ hdz, if_pos rfl, if_pos rfl, hbd]
    refine ⟨SV.change (C := fun y => y = t) h.val hx (fun y hy => hs y hy) (fun r dep hl => by rwa [D_put] at hl) (fun b hb => ⟨hb, rfl⟩) (fun _ _ _ _ => rfl) (fun _ _ => rfl) hroot, by simp⟩
  · simp only [Act.put]
    rw [Array.getElem?_setIfInBounds_ne (Ne.symm (hdp y hy))]

/-- the world turns in free blocks, and new ones come -/
theorem RelX.world (h : RelX w0 A0 ps F bs fr s a w) (hsz : w.heap.size ≤ w'.heap.size) (hw : ∀ b, b < w.heap.size → b ∉ fr → w'.heap[b]? = w.heap[b]?)
    (hn : fr'.Nodup) (hf : ∀ b ∈ fr', (b ∈ fr ∨ w.heap.size ≤ b) ∧ b < w'.heap.size) (hos : w'.os = w.os) (htape : w'.tape = w.tape) (hout : w'.output = w.output) :
    RelX w0 A0 ps F bs fr' s a w' := by
  have hfF : ∀ b, F b → b ∉ fr := fun b hb hf => (h.fown b hf).2.1 hb
  refine h.change (fun _ => False) h.df h.vsz (fun _ _ => ⟨rfl, rfl, rfl⟩) (fun _ _ h => h) (fun b hb => ⟨hb, hw b (h.frz b hb) (hfF b hb)⟩) (fun t b _ hb => hw b (h.own t b hb).1 (h.fdj t b hb)) (fun _ h => h.elim) (fun _ h => h.elim)
    h.dj (fun t b hb => ⟨by have := (h.own t b hb).1; omega, (h.own t b hb).2⟩) hn (fun t b hb hb' => ?_) (fun b hb => ?_) (fun b hb => by have := h.frz b hb; omega) (fun b hb hA => ?_) hsz hos htape hout (fun _ _ => rfl)
  · rcases (hf b hb').1 with h1 | h1
    · exact h.fdj t b hb h1
    · have := (h.own t b hb).1; omega
  · refine ⟨(hf b hb).2, ?_⟩
    rcases (hf b hb).1 with h1 | h1
    · exact (h.fown b h1).2
    · exact ⟨fun hF => by have := h.frz b hF; omega, .inr (by have := h.size; omega)⟩
  · refine hw b (by have := h.size; omega) fun hfr => ?_
    rcases (h.fown b hfr).2.2 with h1 | h1
    · exact hA h1
    · omega

/-- more is held for read-only -/
theorem RelX.grow (h : RelX w0 A0 ps F bs fr s a w) (hF : ∀ b, F b → F' b) (hz : ∀ b, F' b → b < w.heap.size) (hb : ∀ t b, b ∈ bs t → ¬ F' b) (hn : fr'.Nodup) (hf : ∀ b ∈ fr', b ∈ fr ∧ ¬ F' b) :
    RelX w0 A0 ps F' bs fr' s a w :=
  h.change (fun _ => False) h.df h.vsz (fun _ _ => ⟨rfl, rfl, rfl⟩) (fun _ _ h => h) (fun b hb => ⟨hF b hb, rfl⟩) (fun _ _ _ _ => rfl) (fun _ h => h.elim) (fun _ h => h.elim)
    h.dj (fun t b hb' => ⟨(h.own t b hb').1, hb t b hb', (h.own t b hb').2.2⟩) hn (fun t b hb' hf' => h.fdj t b hb' (hf b hf').1) (fun b hb' => ⟨(h.fown b (hf b hb').1).1, (hf b hb').2, (h.fown b (hf b hb').1).2.2⟩)
    hz (fun _ _ _ => rfl) (Nat.le_refl _) rfl rfl rfl (fun _ _ => rfl)
theorem RelX.drop (h : RelX w0 A0 ps F bs fr s a w) (hn : fr'.Nodup) (hf : ∀ b ∈ fr', b ∈ fr) : RelX w0 A0 ps F bs fr' s a w :=
  h.grow (fun _ h => h) h.frz (fun t b hb => (h.own t b hb).2.1) hn (fun b hb => ⟨hf b hb, (h.fown b (hf b hb)).2.1⟩)
theorem RelX.freeze {fr1 : List Nat} (h : RelX w0 A0 ps F bs (fr1 ++ fr) s a w) : RelX w0 A0 ps (fun b => F b ∨ b ∈ fr1) bs fr s a w := by
  have hn := List.nodup_append.1 h.fnd
  refine h.grow (fun b hb => .inl hb) (fun b hb => ?_) (fun t b hb hF => ?_) hn.2.1 (fun b hb => ⟨by simp [hb], ?_⟩)
  · rcases hb with hb | hb
    · exact h.frz b hb
    · exact (h.fown b (by simp [hb])).1
  · rcases hF with h1 | h1
    · exact (h.own t b hb).2.1 h1
    · exact h.fdj t b hb (by simp [h1])
  · rintro (h1 | h1)
    · exact (h.fown b (by simp [hb])).2.1 h1
    · exact hn.2.2 b h1 b hb rfl

theorem liveB_dead0 {D : List (Nat × Nat)} {t : Nat} : liveB ((t, 0) :: D) t 0 = false := by
  simp [liveB]

/-- what a slot holds is taken: the slot then holds nothing -/
theorem RelX.take (h : RelX w0 A0 ps F bs fr s a w) {t : Nat} (hh : (s.get t).isH = false) :
    RV w F (s.get t) (a.tmps.getD t undef) (bs t) ∧ RelX w0 A0 ps F (upd bs t []) (bs t ++ fr) { s.put t .undef with D := (t, 0) :: s.D } a w := by
  refine ⟨(h.val t).nonh hh, ?_⟩
  have hget : ∀ y, ({ s.put t .undef with D := (t, 0) :: s.D } : St).get y = if y = t then .undef else s.get y := fun y => get_put s t y .undef
  refine h.change (fun y => y = t) h.df (by show (s.put t .undef).vars.length ≤ _; rw [vars_put]; exact h.vsz) (fun y hy => ?_) (fun r dep hl => (liveB_cons hl).2) (fun b hb => ⟨hb, rfl⟩) (fun _ _ _ _ => rfl)
    (fun y hy => ?_) (fun r hr => ?_) (fun y y' b hb hb' => ?_) (fun y b hb => ?_) ?_ (fun y b hb => ?_) (fun b hb => ?_) h.frz (fun _ _ _ => rfl) (Nat.le_refl _) rfl rfl rfl (fun _ _ => rfl)
  · have hy' : y ≠ t := hy
    rw [hget, if_neg hy', upd_other _ _ hy']; exact ⟨rfl, rfl, rfl⟩
  · obtain rfl : y = t := hy
    rw [hget, if_pos rfl, upd_same]; exact ⟨RV.undef _, by simp⟩
  · obtain rfl : r = t := hr
    exact .inr (.inl liveB_dead0)
  · by_cases e : y = t
    · subst e; rw [upd_same] at hb; simp at hb
    · by_cases e' : y' = t
      · subst e'; rw [upd_same] at hb'; simp at hb'
      · rw [upd_other _ _ e] at hb; rw [upd_other _ _ e'] at hb'; exact h.dj y y' b hb hb'
  · by_cases e : y = t
    · subst e; rw [upd_same] at hb; simp at hb
    · rw [upd_other _ _ e] at hb; exact h.own y b hb
  · exact List.nodup_append.2 ⟨h.nd t, h.fnd, fun x hx y hy e => h.fdj t x hx (e ▸ hy)⟩
  · by_cases e : y = t
    · subst e; rw [upd_same] at hb; simp at hb
    · rw [upd_other _ _ e] at hb
      rw [List.mem_append]
      rintro (h1 | h1)
      · exact e (h.dj y t b hb h1)
      · exact h.fdj y b hb h1
  · rcases List.mem_append.1 hb with h1 | h1
    · exact h.own t b h1
    · exact h.fown b h1

/-- a slot is written over: what it held is let go -/
theorem RelX.assign {b : List Nat} (h : RelX w0 A0 ps F bs (b ++ fr) s a w) {d : Nat} {x : AV} {v : Value} (hdz : d < a.tmps.size) (hdp : ∀ y ∈ ps, y.1 ≠ d)
    (hx : RV w F x v b) : RelX w0 A0 ps F (upd bs d b) fr { s.put d x with D := (d, 0) :: s.D } (a.put (some d) v) w := by
  have hfn := List.nodup_append.1 h.fnd
  have hget : ∀ y, ({ s.put d x with D := (d, 0) :: s.D } : St).get y = if y = d then x else s.get y := fun y => get_put s d y x
  refine h.change (fun t => t = d) h.df (by show (s.put d x).vars.length ≤ _; rw [vars_put]; simpa [Act.put] using h.vsz) (fun t ht => ?_) (fun r dep hl => (liveB_cons hl).2) (fun b hb => ⟨hb, rfl⟩) (fun _ _ _ _ => rfl)
    (fun t ht => ?_) (fun r hr => ?_) (fun t t' y hy hy' => ?_) (fun t y hy => ?_) hfn.2.1 (fun t y hy => ?_) (fun y hy => h.fown y (by simp [hy])) h.frz (fun _ _ _ => rfl) (Nat.le_refl _) rfl rfl rfl
    (fun y hy => ?_)
  · have ht' : t ≠ d := ht
    rw [hget, getD_put _ _ _ _ hdz, if_neg ht', if_neg ht', upd_other _ _ ht']
    exact ⟨rfl, rfl, rfl⟩
  · obtain rfl : t = d := ht
    rw [hget, getD_put _ _ _ _ hdz, if_pos rfl, if_pos rfl, upd_same]
    exact ⟨SV.of hx, hfn.1⟩
  · obtain rfl : r = d := hr
    exact .inr (.inl liveB_dead0)
  · by_cases e : t = d <;> by_cases e' : t' = d
    · rw [e, e']
    · subst e; rw [upd_same] at hy; rw [upd_other _ _ e'] at hy'
      exact absurd (by simp [hy] : y ∈ b ++ fr) (h.fdj t' y hy')
    · subst e'; rw [upd_same] at hy'; rw [upd_other _ _ e] at hy
      exact absurd (by simp [hy'] : y ∈ b ++ fr) (h.fdj t y hy)
    · rw [upd_other _ _ e] at hy; rw [upd_other _ _ e'] at hy'
      exact h.dj t t' y hy hy'
  · by_cases e : t = d
    · subst e; rw [upd_same] at hy; exact h.fown y (by simp [hy])
    · rw [upd_other _ _ e] at hy; exact h.own t y hy
  · by_cases e : t = d
    · subst e; rw [upd_same] at hy; exact fun hf => hfn.2.2 y hy y hf rfl
    · rw [upd_other _ _ e] at hy; exact fun hf => h.fdj t y hy (by simp [hf])
  · simp only [Act.put]
    rw [Array.getElem?_setIfInBounds_ne (Ne.symm (hdp y hy))]
end
end Go.AM
