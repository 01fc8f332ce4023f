/- Parts of the proof. -/
import Derived.Test.YtfhhgjbcenhdeaaR45
set_option linter.unusedSimpArgs false
set_option linter.unusedVariables false
namespace Go.He
open Go Go.FM Go.Gv Go.Proofs
set_option maxRecDepth 100000
set_option maxHeartbeats 40000000
theorem d7w {p : Pg} (hv : a2q p = true) : ∃ x, Least p x := by
 have hp := vOk hv
 have key : ∀ n x, Rnd p x -> muR p x <= n -> ∃ y, Least p y := by
  intro n
  induction n with
  | zero =>
    intro x h hm
    by_cases e : x = a9r p x
    . exact ⟨x, h.fin hv e⟩
    . have := h.mu hp e; omega
  | succ n ih =>
    intro x h hm
    by_cases e : x = a9r p x
    . exact ⟨x, h.fin hv e⟩
    . exact ih _ (h.next hp) (by have := h.mu hp e; omega)
 exact key _ _ (rnd0 hp) (Nat.le_refl _)
theorem a7q {p : Pg} (hv : a2q p = true) : Least p (lfpP p) := by
 obtain ⟨x, hx⟩ := d7w hv
 rw [d2l hv hx]
 exact hx
theorem b7j {p : Pg} (hv : a2q p = true) : a3e p (lfpP p) = true := by
 have h := a7q hv
 simp [a3e, hv, b7q h.form, h.conds]
theorem ptbE : PtB 2000000 ⟨[], [], []⟩ := ⟨by decide, by decide, by decide, fun _ h => (by cases h), fun _ h => (by cases h), fun _ h => (by cases h)⟩
theorem c6p (p : Pg) : PtB 2000000 (lfpP p) := by
 cases hv : a2q p with
 | true => exact e1u (vOk hv) (a7q hv).form 2000000 (by decide)
 | false => rw [e1h hv]; exact ptbE
theorem e3x {p : Pg} {x : Pts} (hs : a3e p x = true) : ∀ i (h : i < (shP p (lfpP p)).length) (h' : i < (shP p x).length), (shP p (lfpP p))[i] = true -> (shP p x)[i] = true := fun i h h' hi => by
 have hv := a8y hs
 have hF := a9x hs
 have hc : a5q p x := by
  simp only [a3e, Bool.and_eq_true, decide_eq_true_eq] at hs
  exact hs.2.2
 have hl := a7q hv
 have hsub := hl.least x hc hF.sites
 have e1 : shP p (lfpP p) = rchL p (lfpP p) := if_pos (b7j hv)
 have e2 : shP p x = rchL p x := if_pos hs
 rw [<- b2p h, e1, b2c hl.form] at hi
 rw [<- b2p h', e2, b2c hF]
 exact hi.mono hsub
theorem e9c {p : Pg} {x : Pts} (hs : a3e p x = true) : (shP p (lfpP p)).length = (shP p x).length := by
 rw [b2x, b2x, (a7q (a8y hs)).form.sites, (a9x hs).sites]
theorem d1d {p : Pg} (hv : a2q p = true) (o : Nat) (ho : o < (lfpP p).cells.length) (h : o < (shP p (lfpP p)).length) (hm : (shP p (lfpP p))[o] = true) (k : Nat) (hk : k < ((lfpP p).cells[o]).length) : ∃ v : Nat, ((lfpP p).cells[o])[k] = (v : Int) /\ ∃ h' : v < (shP p (lfpP p)).length, (shP p (lfpP p))[v] = true := by
 have hl := (a7q hv).form
 have e1 : shP p (lfpP p) = rchL p (lfpP p) := if_pos (b7j hv)
 have hr : Rch p (lfpP p) (o : Int) := by rw [<- b2c hl, <- e1]; exact (b2p h).2 hm
 have hmem : ((lfpP p).cells[o])[k] ∈ cl (lfpP p) (o : Int) := by rw [c9t ho]; exact List.getElem_mem hk
 have hr2 := Rch.cell hr hmem
 obtain ⟨h0, h1⟩ := hr2.bd hl
 have hlt : ((lfpP p).cells[o])[k].toNat < (shP p (lfpP p)).length := by rw [b2x, hl.sites]; omega
 have e : ((lfpP p).cells[o])[k] = ((((lfpP p).cells[o])[k].toNat : Nat) : Int) := by omega
 refine ⟨_, e, hlt, ?_⟩
 rw [<- b2p hlt, e1, b2c hl, <- e]
 exact hr2
theorem e3w {p : Pg} (hv : a2q p = true) : ∃ h : 0 < (shP p (lfpP p)).length, (shP p (lfpP p))[0] = true := by
 have hl := (a7q hv).form
 have e1 : shP p (lfpP p) = rchL p (lfpP p) := if_pos (b7j hv)
 have hlt : 0 < (shP p (lfpP p)).length := by rw [b2x, hl.sites]; exact a6r p
 refine ⟨hlt, ?_⟩
 rw [<- b2p hlt, e1, b2c hl]
 exact .root (c3h p _ _)
end Go.He
