/- One of the texts of a proof by an abstract machine over the model. -/
import Derived.Test.YtmhkendlllmodaaGreatDoorFmX5
import Derived.Test.YtmhkendlllmodaaGreatDoorFmM
import Derived.Below
set_option linter.unusedSimpArgs false
set_option linter.unusedVariables false
namespace Go.FM
open Go Go.RowKit
section
variable {P : Program} {G : List (Nat × List Value)} {f : FuncId} {A : List FV} {w w' : World} {F : Nat → Prop} {m : Loc → Nat × Nat} {H : Heap}

theorem PC_of_FC {r : FV} {H' : Heap} (h : FC P G f A noH r H') (hr : nl r = true) : PC P G f A r := by
  intro w F m vs hF hG hv hH
  refine (h w F m vs hF hG hv hH).mono ?_
  rintro e w' ⟨v, F', m', rfl, k1, k2, k3, k4, k5, k6, k7, k8, k9, k10, k11⟩
  exact ⟨v, F', m', rfl, k1, k2, fun l hl => absurd rfl hl, k4.nameless hr _ _, heapR_noH _ _ _, fun l ⟨_, h, _⟩ => (by cases h), k7, k8, k9, k10, k11⟩

theorem HeapR.below (hH : HeapR w F m H) (hF : ∀ b, F b → b < w.heap.size) (hb : Below w.heap.size w w') : HeapR w' F m H :=
  ⟨fun l o ho => (hH.obj l o ho).keep (fun _ h => h) (fun b hb' => hb.block b (hF b hb')) (fun _ h => h) (fun _ _ => rfl) rfl (fun hd h0 => hb.block _ (hH.old l ⟨o, ho, hd, h0⟩).1), hH.inj,
   fun l hl => ⟨Nat.lt_of_lt_of_le (hH.old l hl).1 hb.size, (hH.old l hl).2⟩⟩
theorem FC_below {r : FV} (h : ∀ (w : World) (F : Nat → Prop) (m : Loc → Nat × Nat) (vs : List Value), (∀ b, F b → b < w.heap.size) → GlobOk G F w → RFs w F (fun l => H l ≠ none) m A vs → HeapR w F m H →
    Calls P f vs.toArray w fun e w' => ∃ v, e = .returned v ∧ Below w.heap.size w w' ∧ RF w' F (fun l => H l ≠ none) m r v) : FC P G f A H r H := by
  intro w F m vs hF hG hv hH
  refine (h w F m vs hF hG hv hH).mono ?_
  rintro e w' ⟨v, rfl, hb, hr⟩
  exact ⟨v, F, m, rfl, fun _ h => h, fun y hy => ⟨.inl hy, Nat.lt_of_lt_of_le (hF y hy) hb.size⟩, fun l hl => ⟨rfl, hl⟩, hr, hH.below hF hb, fun l hl => .inl ⟨l, hl, rfl⟩, hb.size, fun y hy _ => hb.block y hy, hb.os, hb.tape, hb.output⟩
/-- behind a call that has laid one row, and turned nothing that was there -/
theorem HeapR.belowRow (hH : HeapR w F m H) (hF : ∀ b, F b → b < w.heap.size) (hb : Below w.heap.size w w') {l : Loc} (hl : H l = none) {g : Nat} {cur : Array Value} {T : TypeId} {sz : Nat} {rows : List (List FV)} (hg : w.heap.size ≤ g)
    (hc : w'.heap[g]? = some (.cells cur T (0, 0))) (h0 : cur.size ≠ 0) (hrow : ∀ x ∈ rows, x.length = sz) (hsz : rows.length * sz ≤ cur.size) (hr : RFs w' F (fun k => H k ≠ none) m rows.flatten (cur.toList.take (rows.length * sz))) :
    HeapR w' F (fun k => if k = l then (g, cur.size) else m k) (upd H l (.cells T sz rows)) := by
  have hU : ∀ k, H k ≠ none → upd H l (.cells T sz rows) k ≠ none := fun k hk => by unfold upd; split <;> simp [hk]
  have hm : ∀ k, H k ≠ none → (if k = l then (g, cur.size) else m k) = m k := fun k hk => by
    have : k ≠ l := fun e => hk (e ▸ hl)
    rw [if_neg this]
  have hold := hH.below hF hb
  have hgl : g < w'.heap.size := (Array.getElem?_eq_some_iff.1 hc).1
  have hLive : ∀ k, Live (upd H l (.cells T sz rows)) (fun k => if k = l then (g, cur.size) else m k) k → k ≠ l → Live H m k := fun k ⟨o, h1, h2, h3⟩ e => by
    unfold upd at h1
    rw [if_neg e] at h1
    have h3 : (if k = l then (g, cur.size) else m k).2 ≠ 0 := h3
    rw [if_neg e] at h3
    exact ⟨o, h1, h2, h3⟩
  refine ⟨fun k o ho => ?_, fun k k' hk hk' e => ?_, fun k hk => ?_⟩
  · by_cases e : k = l
    · subst e
      have : o = .cells T sz rows := by simpa [upd] using ho.symm
      subst this
      exact .inr ⟨by simpa using h0, cur, by simpa using hc, by simp, hrow, hsz, hr.keep (fun _ h => h) (fun _ _ => rfl) hU hm⟩
    · unfold upd at ho
      rw [if_neg e] at ho
      exact (hold.obj k o ho).keep (fun _ h => h) (fun _ _ => rfl) hU hm (if_neg e) (fun _ _ => rfl)
  · by_cases e1 : k = l <;> by_cases e2 : k' = l
    · rw [e1, e2]
    · exfalso
      have := (hH.old k' (hLive k' hk' e2)).1
      simp only [e1, e2, if_true, if_false] at e
      omega
    · exfalso
      have := (hH.old k (hLive k hk e1)).1
      simp only [e1, e2, if_true, if_false] at e
      omega
    · simp only [e1, e2, if_false] at e
      exact hH.inj k k' (hLive k hk e1) (hLive k' hk' e2) e
  · by_cases e : k = l
    · subst e
      simp only [if_true]
      exact ⟨hgl, fun hF' => by have := hF _ hF'; omega⟩
    · simp only [e, if_false]
      exact hold.old k (hLive k hk e)
/-- what one row's making is, as a contract -/
theorem FC_row {l : Loc} {T : TypeId} {sz n : Nat} {rows : List (List FV)} (hl : H l = none) (hpos : 0 < sz) (h : ∀ (w : World) (F : Nat → Prop) (m : Loc → Nat × Nat) (vs : List Value), (∀ b, F b → b < w.heap.size) → GlobOk G F w → RFs w F (fun l => H l ≠ none) m A vs → HeapR w F m H →
    Calls P f vs.toArray w fun e w' => ∃ (g cap : Nat) (cur : Array Value), e = .returned (.slice (some ⟨g, 0, none⟩) n cap) ∧ Below w.heap.size w w' ∧ w.heap.size ≤ g ∧ w'.heap[g]? = some (.cells cur T (0, 0)) ∧ n ≤ cap ∧ cur.size = cap * sz ∧ 0 < cap ∧
      (∀ x ∈ rows, x.length = sz) ∧ rows.length * sz ≤ cur.size ∧ RFs w' F (fun k => H k ≠ none) m rows.flatten (cur.toList.take (rows.length * sz))) :
    FC P G f A H (.sl l sz 0 n) (upd H l (.cells T sz rows)) := by
  intro w F m vs hF hG hv hH
  refine (h w F m vs hF hG hv hH).mono ?_
  rintro e w' ⟨g, cap, cur, rfl, hb, hg, hc, hn, hcs, hcap, hrow, hsz, hr⟩
  have h0 : cur.size ≠ 0 := by rw [hcs]; exact Nat.ne_of_gt (Nat.mul_pos hcap hpos)
  have hR := hH.belowRow hF hb hl hg hc h0 hrow hsz hr
  have hgl : g < w'.heap.size := (Array.getElem?_eq_some_iff.1 hc).1
  refine ⟨_, F, _, rfl, fun _ h => h, fun y hy => ⟨.inl hy, Nat.lt_of_lt_of_le (hF y hy) hb.size⟩, fun k hk => ⟨?_, ?_⟩, ?_, hR, fun k hk => ?_, hb.size, fun y hy _ => hb.block y hy, hb.os, hb.tape, hb.output⟩
  · have : k ≠ l := fun e => hk (e ▸ hl)
    simp [this]
  · unfold upd; split <;> simp [hk]
  · have := RF.sl (w := w') (F := F) (U := fun k => upd H l (.cells T sz rows) k ≠ none) (m := fun k => if k = l then (g, cur.size) else m k) l sz 0 n cap 0 (by simp [upd]) hn (.inr (by simp)) (by simp [hcs])
    simpa using this
  · by_cases e : k = l
    · right; simp only [e, if_true]; exact hg
    · left
      obtain ⟨o, h1, h2, h3⟩ := hk
      unfold upd at h1
      rw [if_neg e] at h1
      have h3 : (if k = l then (g, cur.size) else m k).2 ≠ 0 := h3
      rw [if_neg e] at h3
      exact ⟨k, ⟨o, h1, h2, h3⟩, by simp [e]⟩
end
end Go.FM
