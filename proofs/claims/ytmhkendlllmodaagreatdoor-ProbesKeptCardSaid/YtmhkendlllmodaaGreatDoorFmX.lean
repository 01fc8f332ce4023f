/- One of the texts of a proof by an abstract machine over the model. -/
import Derived.Test.YtmhkendlllmodaaGreatDoorFmK
set_option linter.unusedSimpArgs false
set_option linter.unusedVariables false
namespace Go.FM
open Go

/-! ### trees keyed by numbers of d bits, the highest bit first -/
inductive T (α : Type) where
  | nil
  | lf (v : α)
  | nd (l r : T α)
namespace T
variable {α : Type}
def get : Nat → T α → Nat → Option α
  | 0, .lf v, _ => some v
  | d + 1, .nd l r, k => if k < 2 ^ d then get d l k else get d r (k - 2 ^ d)
  | _, _, _ => none
def set : Nat → T α → Nat → α → T α
  | 0, _, _, v => .lf v
  | d + 1, .nd l r, k, v => if k < 2 ^ d then .nd (set d l k v) r else .nd l (set d r (k - 2 ^ d) v)
  | d + 1, _, k, v => if k < 2 ^ d then .nd (set d .nil k v) .nil else .nd .nil (set d .nil (k - 2 ^ d) v)
def left : T α → T α
  | .nd l _ => l
  | _ => .nil
def right : T α → T α
  | .nd _ r => r
  | _ => .nil
/-- keys under 'lo' from the first, the others from the second -/
def join : Nat → T α → T α → Nat → T α
  | 0, a, b, lo => if lo = 0 then b else a
  | d + 1, a, b, lo => if lo < 2 ^ d then .nd (join d a.left b.left lo) b.right else .nd a.left (join d a.right b.right (lo - 2 ^ d))
/-- no key at or over 'lo' on -/
def under : Nat → T α → Nat → Bool
  | _, .nil, _ => true
  | 0, .lf _, lo => decide (0 < lo)
  | 0, .nd _ _, _ => true
  | d + 1, .nd l r, lo => if lo < 2 ^ d then under d l lo && (match r with | .nil => true | _ => false) else under d r (lo - 2 ^ d)
  | _ + 1, .lf _, _ => true
/-- what stands at keys from 'lo' on -/
def allFrom (p : α → Bool) : Nat → T α → Nat → Bool
  | _, .nil, _ => true
  | 0, .lf v, lo => decide (0 < lo) || p v
  | 0, .nd _ _, _ => true
  | d + 1, .nd l r, lo => if lo < 2 ^ d then allFrom p d l lo && allFrom p d r 0 else allFrom p d r (lo - 2 ^ d)
  | _ + 1, .lf _, _ => true
theorem get_nil (d k : Nat) : get d (.nil : T α) k = none := by cases d <;> rfl
theorem get_lf (d k : Nat) (v : α) : get (d + 1) (.lf v) k = none := rfl
theorem get_set : ∀ (d : Nat) (t : T α) (k j : Nat) (v : α), k < 2 ^ d → j < 2 ^ d → get d (set d t k v) j = if j = k then some v else get d t j
  | 0, t, k, j, v, hk, hj => by
    have : j = k := by simp at hk hj; omega
    simp [set, get, this]
  | d + 1, t, k, j, v, hk, hj => by
    rw [Nat.pow_succ] at hk hj
    have key : ∀ l r : T α, get (d + 1) (if k < 2 ^ d then .nd (set d l k v) r else .nd l (set d r (k - 2 ^ d) v)) j = if j = k then some v else get (d + 1) (.nd l r) j := by
      intro l r
      by_cases h1 : k < 2 ^ d
      · rw [if_pos h1]
        simp only [get]
        by_cases h2 : j < 2 ^ d
        · simp only [h2, if_true]
          rw [get_set d l k j v h1 h2]
        · have : j ≠ k := by omega
          simp only [h2, if_false, this]
      · rw [if_neg h1]
        simp only [get]
        by_cases h2 : j < 2 ^ d
        · have : j ≠ k := by omega
          simp only [h2, if_true, this, if_false]
        · simp only [h2, if_false]
          rw [get_set d r (k - 2 ^ d) (j - 2 ^ d) v (by omega) (by omega)]
          by_cases e : j = k
          · simp [e]
          · have : j - 2 ^ d ≠ k - 2 ^ d := by omega
            simp [e, this]
    cases t with
    | nd l r => exact key l r
    | nil =>
      have := key .nil .nil
      simp only [get, get_nil, ite_self] at this
      simp only [set, get]
      exact this
    | lf u =>
      have := key .nil .nil
      simp only [get, get_nil, ite_self] at this
      simp only [set, get]
      exact this
theorem get_left (d : Nat) (t : T α) (k : Nat) (hk : k < 2 ^ d) : get d t.left k = get (d + 1) t k := by
  cases t <;> simp [left, get, get_nil, hk]
theorem get_right (d : Nat) (t : T α) (k : Nat) : get d t.right k = get (d + 1) t (k + 2 ^ d) := by
  have : ¬ k + 2 ^ d < 2 ^ d := by omega
  cases t <;> simp [right, get, get_nil, this]
theorem get_join : ∀ (d : Nat) (a b : T α) (lo k : Nat), k < 2 ^ d → get d (join d a b lo) k = if k < lo then get d a k else get d b k
  | 0, a, b, lo, k, hk => by
    have : k = 0 := by simpa using hk
    subst this
    unfold join
    by_cases h : lo = 0
    · simp [h]
    · have : 0 < lo := by omega
      simp [h, this]
  | d + 1, a, b, lo, k, hk => by
    rw [Nat.pow_succ] at hk
    unfold join
    by_cases h : lo < 2 ^ d
    · rw [if_pos h]
      simp only [get]
      by_cases h2 : k < 2 ^ d
      · simp only [h2, if_true]
        rw [get_join d _ _ lo k h2, get_left d a k h2, get_left d b k h2]
      · have : ¬ k < lo := by omega
        simp only [h2, if_false, this]
        rw [get_right, show k - 2 ^ d + 2 ^ d = k by omega]
    · rw [if_neg h]
      simp only [get]
      by_cases h2 : k < 2 ^ d
      · have : k < lo := by omega
        simp only [h2, if_true, this]
        exact get_left d a k h2
      · simp only [h2, if_false]
        rw [get_join d _ _ (lo - 2 ^ d) (k - 2 ^ d) (by omega), get_right, get_right, show k - 2 ^ d + 2 ^ d = k by omega]
        by_cases e : k < lo
        · have : k - 2 ^ d < lo - 2 ^ d := by omega
          simp [e, this]
        · have : ¬ k - 2 ^ d < lo - 2 ^ d := by omega
          simp [e, this]
theorem get_under : ∀ (d : Nat) (t : T α) (lo k : Nat), under d t lo = true → lo ≤ k → k < 2 ^ d → get d t k = none
  | d, .nil, lo, k, _, _, _ => get_nil d k
  | 0, .lf v, lo, k, h, h1, h2 => by
    simp [under] at h
    simp at h2
    omega
  | 0, .nd _ _, lo, k, h, h1, h2 => rfl
  | d + 1, .lf _, lo, k, h, h1, h2 => rfl
  | d + 1, .nd l r, lo, k, h, h1, h2 => by
    rw [Nat.pow_succ] at h2
    unfold under at h
    simp only [get]
    split at h
    · rename_i hl
      rw [Bool.and_eq_true] at h
      obtain ⟨h3, h4⟩ := h
      have hr : r = .nil := by cases r <;> first | rfl | (simp at h4)
      by_cases h5 : k < 2 ^ d
      · simp only [h5, if_true]; exact get_under d l lo k h3 h1 h5
      · simp only [h5, if_false, hr]; exact get_nil d _
    · rename_i hl
      have h5 : ¬ k < 2 ^ d := by omega
      simp only [h5, if_false]
      exact get_under d r (lo - 2 ^ d) (k - 2 ^ d) h (by omega) (by omega)
theorem get_allFrom (p : α → Bool) : ∀ (d : Nat) (t : T α) (lo k : Nat) (v : α), allFrom p d t lo = true → lo ≤ k → k < 2 ^ d → get d t k = some v → p v = true
  | d, .nil, lo, k, v, _, _, _, h => by rw [get_nil] at h; cases h
  | 0, .lf u, lo, k, v, h, h1, h2, hg => by
    simp only [get, Option.some.injEq] at hg
    subst hg
    simp [allFrom] at h
    simp at h2
    rcases h with h | h
    · omega
    · exact h
  | 0, .nd _ _, lo, k, v, h, h1, h2, hg => by cases hg
  | d + 1, .lf _, lo, k, v, h, h1, h2, hg => by cases hg
  | d + 1, .nd l r, lo, k, v, h, h1, h2, hg => by
    rw [Nat.pow_succ] at h2
    unfold allFrom at h
    simp only [get] at hg
    split at h
    · rw [Bool.and_eq_true] at h
      split at hg
      · exact get_allFrom p d l lo k v h.1 h1 ‹_› hg
      · exact get_allFrom p d r 0 (k - 2 ^ d) v h.2 (Nat.zero_le _) (by omega) hg
    · rename_i hl
      rw [if_neg (by omega)] at hg
      exact get_allFrom p d r (lo - 2 ^ d) (k - 2 ^ d) v h (by omega) (by omega) hg
/-! the same, as the kernel likes it -/
noncomputable def getF (t : T α) : Nat → Nat → Option α :=
  T.rec (motive := fun _ => Nat → Nat → Option α) (fun _ _ => none) (fun v d _ => Nat.rec (motive := fun _ => Option α) (some v) (fun _ _ => none) d)
    (fun _ _ ihl ihr d k => Nat.rec (motive := fun _ => Option α) none (fun d' _ => Bool.rec (motive := fun _ => Option α) (ihr d' (k - 2 ^ d')) (ihl d' k) (Nat.ble (k + 1) (2 ^ d'))) d) t
theorem ble_lt (k n : Nat) : Nat.ble (k + 1) n = decide (k < n) := by
  cases h : Nat.ble (k + 1) n
  · have : ¬ k < n := fun h' => by rw [Nat.ble_eq_true_of_le h'] at h; cases h
    simp [this]
  · have := Nat.le_of_ble_eq_true h
    simp; omega
theorem getF_eq (t : T α) : ∀ (d k : Nat), getF t d k = get d t k := by
  induction t with
  | nil => intro d k; rw [get_nil]; rfl
  | lf v => intro d k; cases d <;> rfl
  | nd l r ihl ihr =>
    intro d k
    cases d with
    | zero => rfl
    | succ d =>
      show Bool.rec (motive := fun _ => Option α) (getF r d (k - 2 ^ d)) (getF l d k) (Nat.ble (k + 1) (2 ^ d)) = _
      rw [ble_lt, ihl, ihr]
      simp only [get]
      by_cases h : k < 2 ^ d <;> simp [h]
noncomputable def mkF (v : α) (d : Nat) : Nat → T α :=
  Nat.rec (motive := fun _ => Nat → T α) (fun _ => .lf v) (fun d' ih k => Bool.rec (motive := fun _ => T α) (.nd .nil (ih (k - 2 ^ d'))) (.nd (ih k) .nil) (Nat.ble (k + 1) (2 ^ d'))) d
theorem set_lf (d k : Nat) (u v : α) : set d (.lf u) k v = set d .nil k v := by cases d <;> rfl
theorem mkF_eq (v : α) : ∀ (d k : Nat), mkF v d k = set d .nil k v
  | 0, k => rfl
  | d + 1, k => by
    show Bool.rec (motive := fun _ => T α) (.nd .nil (mkF v d (k - 2 ^ d))) (.nd (mkF v d k) .nil) (Nat.ble (k + 1) (2 ^ d)) = _
    rw [ble_lt, mkF_eq v d, mkF_eq v d]
    simp only [set]
    by_cases h : k < 2 ^ d <;> simp [h]
noncomputable def setF (t : T α) (v : α) : Nat → Nat → T α :=
  T.rec (motive := fun _ => Nat → Nat → T α) (fun d k => mkF v d k) (fun _ d k => mkF v d k)
    (fun l r ihl ihr d k => Nat.rec (motive := fun _ => T α) (.lf v) (fun d' _ => Bool.rec (motive := fun _ => T α) (.nd l (ihr d' (k - 2 ^ d'))) (.nd (ihl d' k) r) (Nat.ble (k + 1) (2 ^ d'))) d) t
theorem setF_eq (t : T α) (v : α) : ∀ (d k : Nat), setF t v d k = set d t k v := by
  induction t with
  | nil => intro d k; exact mkF_eq v d k
  | lf u => intro d k; rw [set_lf]; exact mkF_eq v d k
  | nd l r ihl ihr =>
    intro d k
    cases d with
    | zero => rfl
    | succ d =>
      show Bool.rec (motive := fun _ => T α) (.nd l (setF r v d (k - 2 ^ d))) (.nd (setF l v d k) r) (Nat.ble (k + 1) (2 ^ d)) = _
      rw [ble_lt, ihl, ihr]
      simp only [set]
      by_cases h : k < 2 ^ d <;> simp [h]
end T
end Go.FM
