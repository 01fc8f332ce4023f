/- One of the texts of a proof by an abstract machine over the model. -/
import Derived.Test.YthlhjepijodemaaAmI
set_option linter.unusedSimpArgs false
set_option linter.unusedVariables false
namespace Go.AM
open Go

section
variable {P : Program} {c : Cfg} {w0 w w' : World} {A0 : List Nat} {ps : List (Nat × Value)} {F F' : Nat → Prop} {bs bs' : Nat → List Nat} {fr fr' : List Nat} {s s' : St} {a a' : Act} {o : Oper}

/-- as 'path', and what the path's cells hang on -/
theorem RV.pathC {n : AV} {v : Value} {bs : List Nat} (h : RV w F n v bs) (p : List Stp) {c : AV} (hc : nodeAt n p = some c) :
    ∃ vc l1 bc l2, valC w v p = some vc ∧ RV w F c vc bc ∧ bs = l1 ++ (bc ++ l2) ∧ ∀ w' : World, (∀ b, b ∈ l1 → w'.heap[b]? = w.heap[b]?) → valC w' v p = valC w v p := by
  induction p generalizing n v bs with
  | nil =>
    simp only [nodeAt, Option.some.injEq] at hc
    subst hc
    exact ⟨v, [], bs, [], rfl, h, by simp, fun _ _ => rfl⟩
  | cons s p ih =>
    simp only [nodeAt, Option.bind_eq_some_iff] at hc
    obtain ⟨m, hm, hc⟩ := hc
    obtain ⟨vm, k1, bm, k2, h1, h2, rfl, _, h5⟩ := h.step s hm
    obtain ⟨vc, l1, bc, l2, g1, g2, rfl, g4⟩ := ih h2 hc
    refine ⟨vc, k1 ++ l1, bc, l2 ++ k2, by simp [valC, h1, g1], g2, by simp, fun w' hw => ?_⟩
    have hv1 : val1 w' v s = val1 w v s := by
      cases hbv : baseOf v with
      | none => cases v <;> simp_all [val1]
      | some a =>
        obtain ⟨ha, _⟩ := h5 a hbv
        have : ∀ W : World, val1 W v s = W.cell? (a.add s.k) := by
          intro W
          cases v <;> simp [baseOf] at hbv <;> simp [val1, baseOf, hbv]
        rw [this, this]
        exact World.cell?_of_block (by rw [block_add]; exact hw _ (by simp [ha]))
    simp only [valC, hv1, h1, Option.bind_some]
    exact g4 w' fun b hb => hw b (by simp [hb])

theorem shape2 {p : List Stp} : ∀ {n c' : AV} {q : List Stp} {x c : AV}, nodeAt n p = some c → q.length ≤ p.length → nodeAt n q = some x → ∃ y, nodeAt (setAt n p c') q = some y := by
  induction p with
  | nil =>
    intro n c' q x c _ hq _
    have : q = [] := List.eq_nil_of_length_eq_zero (by simpa using hq)
    subst this
    exact ⟨c', rfl⟩
  | cons s p ih =>
    intro n c' q x c hc hq hx
    simp only [nodeAt, Option.bind_eq_some_iff] at hc
    obtain ⟨m, hm, hc⟩ := hc
    simp only [setAt, hm]
    cases q with
    | nil => exact ⟨_, rfl⟩
    | cons t q =>
      simp only [nodeAt, Option.bind_eq_some_iff] at hx ⊢
      obtain ⟨z, hz, hx⟩ := hx
      have key : ∃ z', cellAt (setCell1 n s (setAt m p c')) t = some z' ∧ (z' = z ∨ (z' = setAt m p c' ∧ z = m)) := by
        cases n <;> simp only [cellAt] at hm hz <;> try (simp at hm; done)
        case box cs =>
          simp only [setCell1, cellAt]
          split at hm
          · split at hz
            · rename_i h1
              simp only [h1, if_true, List.getElem?_set]
              split
              · rename_i e
                rw [← e, hm] at hz
                have : s.off < cs.length := by rw [List.getElem?_eq_some_iff] at hm; exact hm.1
                simp only [this, if_true]
                exact ⟨_, rfl, .inr ⟨rfl, by simpa using hz.symm⟩⟩
              · exact ⟨z, hz, .inl rfl⟩
            · cases hz
          · cases hm
        case own sz xs =>
          simp only [setCell1, cellAt]
          split at hm
          · split at hz
            · rename_i h1
              rw [Option.bind_eq_some_iff] at hz hm
              obtain ⟨y, hy, hz⟩ := hz
              obtain ⟨y0, hy0, hm⟩ := hm
              simp only [h1, if_true, List.getElem?_modify, hy, Option.map_eq_map, Option.map_some, Option.bind_some]
              split
              · rename_i e
                rw [e, hy] at hy0
                obtain rfl : y = y0 := by simpa using hy0
                rw [List.getElem?_set]
                split
                · rename_i e2
                  rw [← e2, hm] at hz
                  have : s.off < y.length := by rw [List.getElem?_eq_some_iff] at hm; exact hm.1
                  simp only [this, if_true]
                  exact ⟨_, rfl, .inr ⟨rfl, by simpa using hz.symm⟩⟩
                · exact ⟨z, hz, .inl rfl⟩
              · exact ⟨z, hz, .inl rfl⟩
            · cases hz
          · cases hm
        case agg cs =>
          simp only [setCell1, cellAt, List.getElem?_set]
          split
          · rename_i e
            rw [← e, hm] at hz
            have : s.off < cs.length := by rw [List.getElem?_eq_some_iff] at hm; exact hm.1
            simp only [this, if_true]
            exact ⟨_, rfl, .inr ⟨rfl, by simpa using hz.symm⟩⟩
          · exact ⟨z, hz, .inl rfl⟩
      obtain ⟨z', hz', e⟩ := key
      rcases e with rfl | ⟨rfl, rfl⟩
      · exact ⟨x, z', hz', hx⟩
      · obtain ⟨y, hy⟩ := ih (c' := c') hc (by simpa using hq) hx
        exact ⟨y, _, hz', hy⟩

def AV.cellV : AV → Bool
  | .agg _ | .tup _ | .undef | .loc .. | .bor .. => false
  | _ => true
theorem RV.one {x : AV} {v : Value} {b : List Nat} (h : RV w F x v b) (hx : x.cellV = true) : v.oneCell' = true := by
  cases h <;> first | rfl | (simp [AV.cellV] at hx)

/-- cells written one behind the other -/
def storeL (s : St) (r : Nat) (q : List Stp) (st : Stp) : Nat → List AV → St
  | _, [] => s
  | j, x :: xs => storeL { s.put r (setAt (s.get r) (q ++ [{ st with off := st.off + j }]) x) with D := (r, 1) :: s.D } r q st (j + 1) xs

theorem bump_k (st : Stp) (j : Nat) : ({ st with off := st.off + j } : Stp).k = st.k + j := by simp [Stp.k]; omega

theorem nodeAt_last {n : AV} {q : List Stp} {st : Stp} {c : AV} (h : nodeAt n (q ++ [st]) = some c) : ∃ m, nodeAt n q = some m ∧ cellAt m st = some c := by
  rw [nodeAt_append, Option.bind_eq_some_iff] at h
  obtain ⟨m, hm, h⟩ := h
  simp only [nodeAt, Option.bind_eq_some_iff] at h
  obtain ⟨c', hc, e⟩ := h
  obtain rfl : c' = c := by simpa using e
  exact ⟨m, hm, hc⟩

theorem storeCells_ok {r : Nat} {q : List Stp} {st : Stp} {base : Addr} : ∀ (xs : List AV) (vs : List Value) (b : List Nat) (j : Nat) (s : St) (bs : Nat → List Nat) (w : World), RVs w F xs vs b → xs.all AV.cellV = true →
    RelX w0 A0 ps F bs (b ++ fr) s a w → (s.get r).isH = false → (∀ i < xs.length, ∃ c, nodeAt (s.get r) (q ++ [{ st with off := st.off + (j + i) }]) = some c) → (valC w (a.tmps.getD r undef) q).bind baseOf = some base →
    ∃ w' bs', (storeCells (base.add st.k) vs j).run P w = .ok () w' ∧ RelX w0 A0 ps F bs' fr (storeL s r q st j xs) a w'
  | [], vs, b, j, s, bs, w, h, _, hR, _, _, _ => by
    cases h
    exact ⟨w, bs, by simp [storeCells], hR⟩
  | x :: xs, vs, b, j, s, bs, w, h, hx, hR, hh, hn, hb => by
    cases h with
    | cons _ v b1 _ vs b2 h1 h2 =>
    simp only [List.all_cons, Bool.and_eq_true] at hx
    obtain ⟨c, hc⟩ := hn 0 (by simp)
    rw [Nat.add_zero] at hc
    rw [List.append_assoc] at hR
    obtain ⟨⟨u, hu⟩, hfz, l, hR'⟩ := hR.store hc hh h1 hb
    rw [bump_k] at hu hfz hR'
    obtain ⟨m, hm, hcm⟩ := nodeAt_last hc
    obtain ⟨vq, l1, bq, l2, g1, g2, g3, g4⟩ := ((hR.val r).nonh hh).pathC q hm
    have hblk : base.block ∈ bq := by
      rw [g1, Option.bind_some] at hb
      obtain ⟨vc, k1, bc, k2, _, _, e, _, f⟩ := g2.step _ hcm
      rw [e]; simp [(f base hb).1]
    have hbr : base.block ∈ bs r := by rw [g3]; simp [hblk]
    have hnd := hR.nd r
    rw [g3] at hnd
    have hnF : ¬ F base.block := (hR.own r _ hbr).2.1
    have hfar : ∀ y, y ≠ base.block → (w.setCell (base.add (st.k + j)) v).heap[y]? = w.heap[y]? := fun y hy => setCell_far w _ v (by rw [block_add]; exact hy)
    have h2' : RVs (w.setCell (base.add (st.k + j)) v) F xs vs b2 := h2.keep (fun _ h => h) fun y hy => hfar y (by
      rintro rfl
      rcases hy with hy | hy
      · exact hnF hy
      · exact hR.fdj r _ hbr (by simp [hy]))
    have hbase' : (valC (w.setCell (base.add (st.k + j)) v) (a.tmps.getD r undef) q).bind baseOf = some base := by
      rw [g4 _ fun y hy => hfar y (by
        rintro rfl
        exact (nodup_mid hnd).2.2 _ hblk (by simp [hy]))]
      exact hb
    have hget : ∀ y, ({ s.put r (setAt (s.get r) (q ++ [{ st with off := st.off + j }]) x) with D := (r, 1) :: s.D } : St).get y = if y = r then setAt (s.get r) (q ++ [{ st with off := st.off + j }]) x else s.get y := fun y => get_put s r y _
    have hH' : (setAt (s.get r) (q ++ [{ st with off := st.off + j }]) x).isH = false := by
      have : ∀ {z : AV} {t : Stp} {u v : AV}, cellAt z t = some u → (setCell1 z t v).isH = false := by
        intro z t u v h; cases z <;> simp [cellAt] at h <;> rfl
      cases q with
      | nil =>
        obtain ⟨m', hm', hc'⟩ := nodeAt_last hc
        simp only [nodeAt, Option.some.injEq] at hm'
        subst hm'
        simp only [List.nil_append, setAt, hc']
        exact this hc'
      | cons t q =>
        have hc2 := hc
        simp only [List.cons_append, nodeAt, Option.bind_eq_some_iff] at hc2
        obtain ⟨z, hz, _⟩ := hc2
        simp only [List.cons_append, setAt, hz]
        exact this hz
    obtain ⟨w', bs', hrun, hR''⟩ := storeCells_ok (r := r) (q := q) (st := st) (base := base) xs vs b2 (j + 1) _ _ _ h2' hx.2 hR' (by rw [hget, if_pos rfl]; exact hH') (fun i hi => by
      rw [hget, if_pos rfl]
      obtain ⟨z, hz⟩ := hn (i + 1) (by simpa using hi)
      have e : j + 1 + i = j + (i + 1) := by omega
      rw [e]
      exact shape2 hc (by simp) hz) hbase'
    refine ⟨w', bs', ?_, hR''⟩
    simp only [storeCells, Sem.run_bind, add_add, run_store P w _ v .plain (h1.one hx.1), hu, hfz]
    exact hrun
end
end Go.AM
