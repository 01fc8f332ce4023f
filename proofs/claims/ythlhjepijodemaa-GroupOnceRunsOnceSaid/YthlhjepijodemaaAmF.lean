/- One of the texts of a proof by an abstract machine over the model. -/
import Derived.Test.YthlhjepijodemaaAmE
set_option linter.unusedSimpArgs false
set_option linter.unusedVariables false
namespace Go.AM
open Go

theorem cellAt_set {n : AV} {s t : Stp} {m m' x : AV} (h : cellAt (setCell1 n s m') t = some x) (hm : cellAt n s = some m) : (x = m' ∧ cellAt n t = some m) ∨ cellAt n t = some x := by
  cases n <;> simp only [cellAt] at hm <;> try (simp at hm; done)
  case box cs =>
    simp only [setCell1, cellAt] at h ⊢
    split at hm
    · split at h
      · rename_i h1
        simp only [h1, if_true]
        rw [List.getElem?_set] at h
        split at h
        · rename_i e
          split at h
          · left; simp at h; exact ⟨h.symm, by rw [← e]; exact hm⟩
          · cases h
        · exact .inr h
      · cases h
    · cases hm
  case own sz xs =>
    simp only [setCell1, cellAt] at h ⊢
    split at hm
    · split at h
      · rename_i h1
        simp only [h1, if_true]
        rw [Option.bind_eq_some_iff] at h hm
        obtain ⟨y, hy, hx⟩ := h
        obtain ⟨y0, hy0, hm⟩ := hm
        rw [List.getElem?_modify] at hy
        rw [Option.map_eq_map, Option.map_eq_some_iff] at hy
        obtain ⟨z, hz, hy⟩ := hy
        split at hy
        · rename_i e
          rw [e] at hy0
          rw [hz] at hy0
          obtain rfl : z = y0 := by simpa using hy0
          subst hy
          rw [List.getElem?_set] at hx
          split at hx
          · rename_i e2
            split at hx
            · left; simp at hx; exact ⟨hx.symm, by rw [hz, Option.bind_some, ← e2]; exact hm⟩
            · cases hx
          · right; rw [hz, Option.bind_some]; exact hx
        · right; subst hy; rw [hz, Option.bind_some]; exact hx
      · cases h
    · cases hm
  case agg cs =>
    simp only [setCell1, cellAt] at h ⊢
    rw [List.getElem?_set] at h
    split at h
    · rename_i e
      split at h
      · left; simp at h; exact ⟨h.symm, by rw [← e]; exact hm⟩
      · cases h
    · exact .inr h

theorem setCell1_nu {n : AV} {s : Stp} {m c : AV} (hm : cellAt n s = some m) : setCell1 n s c ≠ .undef := by
  cases n <;> simp [cellAt] at hm <;> simp [setCell1]

theorem shape {p : List Stp} : ∀ {n : AV} {c' : AV} {q : List Stp} {x c : AV}, nodeAt n p = some c → q.length ≤ p.length → nodeAt (setAt n p c') q = some x →
    ∃ y, nodeAt n q = some y ∧ (q.length < p.length → x ≠ .undef → y ≠ .undef) := by
  induction p with
  | nil =>
    intro n c' q x c _ hq _
    have : q = [] := List.eq_nil_of_length_eq_zero (by simpa using hq)
    subst this
    exact ⟨n, rfl, fun h => by simp at h⟩
  | cons s p ih =>
    intro n c' q x c hc hq hx
    simp only [nodeAt, Option.bind_eq_some_iff] at hc
    obtain ⟨m, hm, hc⟩ := hc
    simp only [setAt, hm] at hx
    cases q with
    | nil => exact ⟨n, rfl, fun _ _ e => by subst e; simp [cellAt] at hm⟩
    | cons t q =>
      simp only [nodeAt, Option.bind_eq_some_iff] at hx ⊢
      obtain ⟨z, hz, hx⟩ := hx
      rcases cellAt_set hz hm with ⟨rfl, h1⟩ | h1
      · obtain ⟨y, hy, hy2⟩ := ih hc (by simpa using hq) hx
        exact ⟨y, ⟨m, h1, hy⟩, fun hl => hy2 (by simpa using hl)⟩
      · exact ⟨x, ⟨z, h1, hx⟩, fun _ h => h⟩

theorem setAt_append {q p : List Stp} : ∀ {n c m : AV}, nodeAt n q = some m → setAt n (q ++ p) c = setAt n q (setAt m p c) := by
  induction q with
  | nil => intro n c m h; simp [nodeAt] at h; subst h; rfl
  | cons s q ih =>
    intro n c m h
    simp only [nodeAt, Option.bind_eq_some_iff] at h
    obtain ⟨k, hk, h⟩ := h
    simp only [List.cons_append, setAt, hk, ih h]

theorem nodeAt_isH {n : AV} {p : List Stp} {c : AV} (hn : n.isH = true) (h : nodeAt n p = some c) : p = [] := by
  cases p with
  | nil => rfl
  | cons s p =>
    simp only [nodeAt, Option.bind_eq_some_iff] at h
    obtain ⟨m, hm, _⟩ := h
    cases n <;> simp [AV.isH] at hn <;> simp [cellAt] at hm

section
variable {w0 w w' : World} {A0 : List Nat} {ps : List (Nat × Value)} {F F' : Nat → Prop} {bs bs' : Nat → List Nat} {fr fr' : List Nat} {s s' : St} {a a' : Act}

theorem nodup_mid {l1 b l2 : List Nat} (h : (l1 ++ (b ++ l2)).Nodup) : b.Nodup ∧ (l1 ++ l2).Nodup ∧ ∀ x ∈ b, x ∉ l1 ++ l2 := by
  rw [List.nodup_append] at h
  obtain ⟨h1, h2, h3⟩ := h
  rw [List.nodup_append] at h2
  obtain ⟨h4, h5, h6⟩ := h2
  refine ⟨h4, List.nodup_append.2 ⟨h1, h5, fun x hx y hy => h3 x hx y (by simp [hy])⟩, fun x hx hy => ?_⟩
  rcases List.mem_append.1 hy with h | h
  · exact h3 x h x (by simp [hx]) rfl
  · exact h6 x hx x h rfl

/-- what stands at a path in a slot's tree is taken -/
theorem RelX.takeAt (h : RelX w0 A0 ps F bs fr s a w) {r : Nat} {p : List Stp} {c : AV} (hc : nodeAt (s.get r) p = some c) (hh : (s.get r).isH = false) :
    ∃ vc l1 bc l2, valC w (a.tmps.getD r undef) p = some vc ∧ RV w F c vc bc ∧ bs r = l1 ++ (bc ++ l2) ∧
      RelX w0 A0 ps F (upd bs r (l1 ++ l2)) (bc ++ fr) { s.put r (setAt (s.get r) p .undef) with D := (r, p.length) :: s.D } a w := by
  have hv := (h.val r).nonh hh
  obtain ⟨vc, l1, bc, l2, h1, h2, h3, h4⟩ := hv.path p hc
  refine ⟨vc, l1, bc, l2, h1, h2, h3, ?_⟩
  have hnd := h.nd r
  rw [h3] at hnd
  obtain ⟨n1, n2, n3⟩ := nodup_mid hnd
  have hsub : ∀ b, b ∈ l1 ++ l2 → b ∈ bs r := fun b hb => by rw [h3]; simp only [List.mem_append] at hb ⊢; rcases hb with h | h <;> simp [h]
  have hsubc : ∀ b, b ∈ bc → b ∈ bs r := fun b hb => by rw [h3]; simp [hb]
  have hsub' : ∀ t b, b ∈ upd bs r (l1 ++ l2) t → b ∈ bs t := fun t b hb => by
    by_cases e : t = r
    · subst e; rw [upd_same] at hb; exact hsub b hb
    · rwa [upd_other _ _ e] at hb
  have hget : ∀ y, ({ s.put r (setAt (s.get r) p .undef) with D := (r, p.length) :: s.D } : St).get y = if y = r then setAt (s.get r) p .undef else s.get y := fun y => get_put s r y _
  have hnew : RV w F (setAt (s.get r) p .undef) (a.tmps.getD r undef) (l1 ++ l2) := by
    simpa using h4 w F .undef [] (fun _ h => h) (fun _ _ => rfl) (RV.undef _)
  refine h.change (fun y => y = r) h.df (by show (s.put r _).vars.length ≤ _; rw [vars_put]; exact h.vsz) (fun y hy => ?_) (fun r dep hl => (liveB_cons hl).2) (fun b hb => ⟨hb, rfl⟩) (fun _ _ _ _ => rfl)
    (fun y hy => ?_) (fun y hy => ?_) (fun t t' b hb hb' => h.dj t t' b (hsub' t b hb) (hsub' t' b hb')) (fun t b hb => h.own t b (hsub' t b hb)) ?_ (fun t b hb => ?_) (fun b hb => ?_) h.frz (fun _ _ _ => rfl) (Nat.le_refl _) rfl rfl rfl (fun _ _ => rfl)
  · have hy' : y ≠ r := hy
    rw [hget, if_neg hy', upd_other _ _ hy']; exact ⟨rfl, rfl, rfl⟩
  · obtain rfl : y = r := hy
    rw [hget, if_pos rfl, upd_same]
    exact ⟨SV.of hnew, n2⟩
  · obtain rfl : y = r := hy
    cases p with
    | nil => exact .inr (.inl liveB_dead0)
    | cons st p =>
      refine .inr (.inr ⟨?_, fun q hl => ?_⟩)
      · rw [hget, if_pos rfl]
        simp only [nodeAt, Option.bind_eq_some_iff] at hc
        obtain ⟨m, hm, _⟩ := hc
        simp only [setAt, hm]
        exact setCell1_nu hm
      · have hql := (liveB_cons hl).1 rfl
        rw [hget, if_pos rfl]
        refine ⟨fun x hx hxu => ?_, fun st' x hx => ?_, fun x hx => hx⟩
        · obtain ⟨y, hy, hy2⟩ := shape hc (Nat.le_of_lt hql) hx
          exact ⟨y, hy, hy2 hql hxu⟩
        · obtain ⟨y, hy, _⟩ := shape hc (by simp only [List.length_append, List.length_cons, List.length_nil]; simp only [List.length_cons] at hql; omega) hx
          exact ⟨y, hy⟩
  · exact List.nodup_append.2 ⟨n1, h.fnd, fun x hx y hy e => h.fdj r x (hsubc x hx) (e ▸ hy)⟩
  · rw [List.mem_append]
    rintro (hb2 | hb2)
    · by_cases e : t = r
      · subst e; rw [upd_same] at hb; exact n3 b hb2 hb
      · rw [upd_other _ _ e] at hb; exact e (h.dj t r b hb (hsubc b hb2))
    · exact h.fdj t b (hsub' t b hb) hb2
  · rcases List.mem_append.1 hb with h1 | h1
    · exact h.own r b (hsubc b h1)
    · exact h.fown b h1

/-- one cell of a slot's tree is written -/
theorem RelX.store {b : List Nat} (h : RelX w0 A0 ps F bs (b ++ fr) s a w) {r : Nat} {q : List Stp} {st : Stp} {c x : AV} {v : Value} (hc : nodeAt (s.get r) (q ++ [st]) = some c) (hh : (s.get r).isH = false)
    (hx : RV w F x v b) {base : Addr} (hbase : (valC w (a.tmps.getD r undef) q).bind baseOf = some base) :
    (∃ u, w.cell? (base.add st.k) = some u) ∧ w.frozen? (base.add st.k) = false ∧
    ∃ l, RelX w0 A0 ps F (upd bs r l) fr { s.put r (setAt (s.get r) (q ++ [st]) x) with D := (r, 1) :: s.D } a (w.setCell (base.add st.k) v) := by
  have hv := (h.val r).nonh hh
  have hfn := List.nodup_append.1 h.fnd
  rw [nodeAt_append, Option.bind_eq_some_iff] at hc
  obtain ⟨m, hm, hc⟩ := hc
  simp only [nodeAt, Option.bind_eq_some_iff] at hc
  obtain ⟨c', hc, _⟩ := hc
  obtain ⟨vq, k1, bq, k2, h1, h2, h3, h4⟩ := hv.path q hm
  rw [h1, Option.bind_some] at hbase
  obtain ⟨vc, l1, bc, l2, g1, g2, g3, _, g5⟩ := h2.step st hc
  obtain ⟨e1, e0, e2, e3, g6⟩ := g5 base hbase
  have hcell : w.cell? (base.add st.k) = some vc := by
    cases vq <;> simp [baseOf] at hbase <;> simpa [val1, baseOf, hbase] using g1
  have hnd := h.nd r
  rw [h3] at hnd
  obtain ⟨n1, n2, n3⟩ := nodup_mid hnd
  have hblk : (base.add st.k).block = base.block := block_add _ _
  have hbq : base.block ∈ bq := by rw [g3]; simp [e1]
  have hbr : base.block ∈ bs r := by rw [h3]; simp [hbq]
  have hnF : ¬ F base.block := (h.own r _ hbr).2.1
  have hnb : base.block ∉ b := fun hb => h.fdj r _ hbr (by simp [hb])
  have hfar : ∀ y, y ≠ base.block → (w.setCell (base.add st.k) v).heap[y]? = w.heap[y]? := fun y hy => setCell_far w _ v (by rw [hblk]; exact hy)
  have hx' : RV (w.setCell (base.add st.k) v) F x v b := hx.keep (fun _ h => h) fun y hy => hfar y (by
    rintro rfl
    rcases hy with hy | hy
    · exact hnF hy
    · exact hnb hy)
  have s1 := g6 (w.setCell (base.add st.k) v) F x v b (fun _ h => h) n1 hnF (fun y hy _ => hfar y hy) rfl hx'
  have s2 := h4 (w.setCell (base.add st.k) v) F (setCell1 m st x) (l1 ++ (b ++ l2)) (fun _ h => h) (fun y hy => hfar y (by
    rintro rfl
    rcases hy with hy | hy
    · exact hnF hy
    · exact n3 _ hbq (by simpa using hy))) s1
  have hset : setAt (s.get r) (q ++ [st]) x = setAt (s.get r) q (setCell1 m st x) := by
    rw [setAt_append hm]; simp [setAt, hc]
  rw [← hset] at s2
  refine ⟨⟨vc, hcell⟩, e3, k1 ++ (l1 ++ (b ++ l2) ++ k2), ?_⟩
  have hmem : ∀ y, y ∈ k1 ++ (l1 ++ (b ++ l2) ++ k2) → y ∈ b ∨ y ∈ bs r := fun y hy => by
    rw [h3, g3]; simp only [List.mem_append] at hy ⊢; rcases hy with h | ((h | h | h) | h) <;> simp [h]
  have hmem' : ∀ t y, y ∈ upd bs r (k1 ++ (l1 ++ (b ++ l2) ++ k2)) t → (y ∈ b ∧ t = r) ∨ y ∈ bs t := fun t y hy => by
    by_cases e : t = r
    · subst e; rw [upd_same] at hy; rcases hmem y hy with h | h <;> simp [h]
    · rw [upd_other _ _ e] at hy; exact .inr hy
  have hget : ∀ y, ({ s.put r (setAt (s.get r) (q ++ [st]) x) with D := (r, 1) :: s.D } : St).get y = if y = r then setAt (s.get r) (q ++ [st]) x else s.get y := fun y => get_put s r y _
  have hcc : nodeAt (s.get r) (q ++ [st]) = some c' := by rw [nodeAt_append, hm, Option.bind_some]; simp [nodeAt, hc]
  refine h.change (fun y => y = r) h.df (by show (s.put r _).vars.length ≤ _; rw [vars_put]; exact h.vsz) (fun y hy => ?_) (fun r dep hl => (liveB_cons hl).2)
    (fun y hy => ⟨hy, hfar y (by rintro rfl; exact hnF hy)⟩) (fun t y ht hy => hfar y (by rintro rfl; exact ht (h.dj t r _ hy hbr)))
    (fun y hy => ?_) (fun y hy => ?_) (fun t t' y hy hy' => ?_) (fun t y hy => ?_) hfn.2.1 (fun t y hy => ?_) (fun y hy => ?_) (fun y hy => by simpa using h.frz y hy) (fun y hy hyA => hfar y ?_) (by simp) rfl rfl rfl (fun _ _ => rfl)
  · have hy' : y ≠ r := hy
    rw [hget, if_neg hy', upd_other _ _ hy']; exact ⟨rfl, rfl, rfl⟩
  · obtain rfl : y = r := hy
    rw [hget, if_pos rfl, upd_same]
    refine ⟨SV.of s2, ?_⟩
    have hbb : ∀ z ∈ b, z ∉ bs y := fun z hz hz' => h.fdj y z hz' (by simp [hz])
    have n4 : (l1 ++ (bc ++ l2)).Nodup := by rw [← g3]; exact n1
    obtain ⟨m1, m2, m3⟩ := nodup_mid n4
    have hb1 : (l1 ++ (b ++ l2)).Nodup := by
      rw [List.nodup_append] at m2 ⊢
      refine ⟨m2.1, List.nodup_append.2 ⟨hfn.1, m2.2.1, fun z hz u hu e => hbb z hz (by rw [h3, g3, e]; simp [hu])⟩, fun z hz u hu e => ?_⟩
      rcases List.mem_append.1 hu with hu | hu
      · exact hbb u hu (by rw [h3, g3, ← e]; simp [hz])
      · exact m2.2.2 z hz u hu e
    rw [List.nodup_append] at n2 ⊢
    refine ⟨n2.1, List.nodup_append.2 ⟨hb1, n2.2.1, fun z hz u hu e => ?_⟩, fun z hz u hu e => ?_⟩
    · simp only [List.mem_append] at hz
      rcases hz with hz | hz | hz
      · exact n3 z (by rw [g3]; simp [hz]) (by rw [e]; simp [hu])
      · exact hbb z hz (by rw [h3, e]; simp [hu])
      · exact n3 z (by rw [g3]; simp [hz]) (by rw [e]; simp [hu])
    · simp only [List.mem_append] at hu
      rcases hu with (hu | hu | hu) | hu
      · exact n3 u (by rw [g3]; simp [hu]) (by rw [← e]; simp [hz])
      · exact hbb u hu (by rw [h3, ← e]; simp [hz])
      · exact n3 u (by rw [g3]; simp [hu]) (by rw [← e]; simp [hz])
      · exact n2.2.2 z hz u hu e
  · obtain rfl : y = r := hy
    refine .inr (.inr ⟨?_, fun p hl => ?_⟩)
    · rw [hget, if_pos rfl, hset]
      cases q with
      | nil => simp only [setAt]; exact setCell1_nu hc
      | cons t q =>
        simp only [nodeAt, Option.bind_eq_some_iff] at hm
        obtain ⟨k, hk, _⟩ := hm
        simp only [setAt, hk]
        exact setCell1_nu hk
    · have hpl : p.length < 1 := (liveB_cons hl).1 rfl
      obtain rfl : p = [] := List.eq_nil_of_length_eq_zero (by omega)
      rw [hget, if_pos rfl]
      refine ⟨fun x hx hxu => ?_, fun st' x hx => ?_, fun x hx => hx⟩
      · obtain ⟨y, hy, hy2⟩ := shape (q := []) hcc (by simp) hx
        exact ⟨y, hy, hy2 (by simp) hxu⟩
      · obtain ⟨y, hy, _⟩ := shape hcc (by simp) hx
        exact ⟨y, hy⟩
  · rcases hmem' t y hy with ⟨z1, z3⟩ | z1 <;> rcases hmem' t' y hy' with ⟨z2, z4⟩ | z2
    · rw [z3, z4]
    · exact absurd (by simp [z1] : y ∈ b ++ fr) (h.fdj t' y z2)
    · exact absurd (by simp [z2] : y ∈ b ++ fr) (h.fdj t y z1)
    · exact h.dj t t' y z1 z2
  · rw [World.size_setCell]
    rcases hmem' t y hy with ⟨z1, _⟩ | z1
    · exact h.fown y (by simp [z1])
    · exact h.own t y z1
  · rcases hmem' t y hy with ⟨z1, _⟩ | z1
    · exact fun hf => hfn.2.2 y z1 y hf rfl
    · exact fun hf => h.fdj t y z1 (by simp [hf])
  · rw [World.size_setCell]; exact h.fown y (by simp [hy])
  · rintro rfl
    rcases (h.own r _ hbr).2.2 with hA | hA
    · exact hyA hA
    · omega
end
end Go.AM
