/- One of the texts of a proof by an abstract machine over the model. -/
import Derived.Test.YtmhkendlllmodaaGreatDoorFmX2
set_option linter.unusedSimpArgs false
set_option linter.unusedVariables false
namespace Go.FM
open Go

/-! ### names -/
abbrev isS (H : Heap) : Loc → Bool := fun l => (H l).isSome
theorem nBs_all (U : Loc → Bool) (l : List FV) : nBs U l = l.all (nB U) := by
  induction l with
  | nil => rfl
  | cons x l ih => simp [nBs, ih]
theorem nBss_flatten (U : Loc → Bool) (l : List (List FV)) : nBss U l = nBs U l.flatten := by
  induction l with
  | nil => rfl
  | cons x l ih => simp only [nBss, ih, List.flatten_cons, nBs_all, List.all_append]
section
variable {P : Program} {w w' : World} {F F' : Nat → Prop} {U U' : Loc → Prop} {m m' : Loc → Nat × Nat} {B : Loc → Bool}
mutual
theorem RF.names {x : FV} {v : Value} (h : RF w F U m x v) (hB : ∀ l, U l → B l = true) : nB B x = true :=
  match h with
  | .ptr l _ _ _ hu => hB l hu
  | .sl l _ _ _ _ _ hu _ _ _ => hB l hu
  | .sl0 l _ _ hu _ => hB l hu
  | .mp l hu => hB l hu
  | .list sz xs A cap vs hl hc hm h => by rw [nB, nBss_flatten]; exact RFs.names h hB
  | .ref cs a vs hF hm h => RFs.names h hB
  | .agg cs vs h => RFs.names h hB
  | .tup cs vs h => RFs.names h hB
  | .clo f a b us vs h1 h2 => by rw [nB, RFs.names h1 hB, RFs.names h2 hB]; rfl
  | .undef _ => rfl
  | .int _ _ => rfl
  | .bool _ => rfl
  | .str _ => rfl
  | .nilp => rfl
  | .nils => rfl
  | .nilm => rfl
  | .nilf => rfl
  | .emp _ => rfl
theorem RFs.names {xs : List FV} {vs : List Value} (h : RFs w F U m xs vs) (hB : ∀ l, U l → B l = true) : nBs B xs = true :=
  match h with
  | .nil => rfl
  | .cons a v as vs h hs => by rw [nBs, RF.names h hB, RFs.names hs hB]; rfl
end
mutual
theorem RF.cutU {x : FV} {v : Value} (h : RF w F U m x v) (hx : nB B x = true) (hB : ∀ l, B l = true → U' l) : RF w F U' m x v :=
  match h with
  | .ptr l sz i off hu => .ptr l sz i off (hB l hx)
  | .sl l sz off len cap o hu hc ho hs => .sl l sz off len cap o (hB l hx) hc ho hs
  | .sl0 l sz off hu h0 => .sl0 l sz off (hB l hx) h0
  | .mp l hu => .mp l (hB l hx)
  | .list sz xs A cap vs hl hc hm h => .list sz xs A cap vs hl hc hm (RFs.cutU h (by rw [nB, nBss_flatten] at hx; exact hx) hB)
  | .ref cs a vs hF hm h => .ref cs a vs hF hm (RFs.cutU h hx hB)
  | .agg cs vs h => .agg cs vs (RFs.cutU h hx hB)
  | .tup cs vs h => .tup cs vs (RFs.cutU h hx hB)
  | .clo f a b us vs h1 h2 => .clo f a b us vs (RFs.cutU h1 (by rw [nB, Bool.and_eq_true] at hx; exact hx.1) hB) (RFs.cutU h2 (by rw [nB, Bool.and_eq_true] at hx; exact hx.2) hB)
  | .undef v => .undef v
  | .int k n => .int k n
  | .bool b => .bool b
  | .str s => .str s
  | .nilp => .nilp
  | .nils => .nils
  | .nilm => .nilm
  | .nilf => .nilf
  | .emp A => .emp A
theorem RFs.cutU {xs : List FV} {vs : List Value} (h : RFs w F U m xs vs) (hx : nBs B xs = true) (hB : ∀ l, B l = true → U' l) : RFs w F U' m xs vs :=
  match h with
  | .nil => .nil
  | .cons a v as vs h hs => .cons a v as vs (RF.cutU h (by rw [nBs, Bool.and_eq_true] at hx; exact hx.1) hB) (RFs.cutU hs (by rw [nBs, Bool.and_eq_true] at hx; exact hx.2) hB)
end
mutual
theorem nB_mono {B B' : Loc → Bool} (h : ∀ l, B l = true → B' l = true) : ∀ x : FV, nB B x = true → nB B' x = true
  | .ptr l _ _ _, hx => h l hx
  | .sl l _ _ _, hx => h l hx
  | .mp l, hx => h l hx
  | .list _ xs, hx => nBss_mono h xs hx
  | .ref cs, hx => nBs_mono h cs hx
  | .agg cs, hx => nBs_mono h cs hx
  | .tup cs, hx => nBs_mono h cs hx
  | .clo _ a b, hx => by
    rw [nB, Bool.and_eq_true] at hx ⊢
    exact ⟨nBs_mono h a hx.1, nBs_mono h b hx.2⟩
  | .undef, _ => rfl
  | .int _ _, _ => rfl
  | .bool _, _ => rfl
  | .str _, _ => rfl
  | .nilp, _ => rfl
  | .nils, _ => rfl
  | .nilm, _ => rfl
  | .nilf, _ => rfl
  | .emp, _ => rfl
theorem nBs_mono {B B' : Loc → Bool} (h : ∀ l, B l = true → B' l = true) : ∀ xs : List FV, nBs B xs = true → nBs B' xs = true
  | [], _ => rfl
  | x :: xs, hx => by
    rw [nBs, Bool.and_eq_true] at hx ⊢
    exact ⟨nB_mono h x hx.1, nBs_mono h xs hx.2⟩
theorem nBss_mono {B B' : Loc → Bool} (h : ∀ l, B l = true → B' l = true) : ∀ xs : List (List FV), nBss B xs = true → nBss B' xs = true
  | [], _ => rfl
  | x :: xs, hx => by
    rw [nBss, Bool.and_eq_true] at hx ⊢
    exact ⟨nBs_mono h x hx.1, nBss_mono h xs hx.2⟩
end
theorem nBm_mono {B B' : Loc → Bool} (h : ∀ l, B l = true → B' l = true) : ∀ es : List (FV × FV × Nat), nBm B es = true → nBm B' es = true
  | [], _ => rfl
  | e :: es, hx => by
    rw [nBm, Bool.and_eq_true, Bool.and_eq_true] at hx ⊢
    exact ⟨⟨nB_mono h _ hx.1.1, nB_mono h _ hx.1.2⟩, nBm_mono h es hx.2⟩
theorem onB_mono {B B' : Loc → Bool} (h : ∀ l, B l = true → B' l = true) : ∀ o : FO, onB B o = true → onB B' o = true
  | .cells _ _ xs, hx => nBss_mono h xs hx
  | .map es _, hx => nBm_mono h es hx
  | .iter x _ _ _, hx => nB_mono h x hx
  | .dead, _ => rfl
theorem REs.names {es : List (FV × FV × Nat)} {xs : List MapEntry} (h : REs w F U m es xs) (hB : ∀ l, U l → B l = true) : nBm B es = true := by
  induction h with
  | nil => rfl
  | cons e x es xs h hs ih => rw [nBm, h.key.names hB, h.val.names hB, ih]; rfl
theorem REs.cutU {es : List (FV × FV × Nat)} {xs : List MapEntry} (h : REs w F U m es xs) (hx : nBm B es = true) (hB : ∀ l, B l = true → U' l) : REs w F U' m es xs := by
  induction h with
  | nil => exact .nil
  | cons e x es xs h hs ih =>
    rw [nBm, Bool.and_eq_true, Bool.and_eq_true] at hx
    exact .cons _ _ _ _ ⟨h.key.cutU hx.1.1 hB, h.val.cutU hx.1.2 hB, h.born⟩ (ih hx.2)
theorem OR.names {H : Heap} {l : Loc} {o : FO} (h : OR w F H m l o) : onB (isS H) o = true := by
  have hB : ∀ l, H l ≠ none → isS H l = true := fun l hl => by simpa [isS, Option.isSome_iff_ne_none] using hl
  cases o with
  | cells T sz xs =>
    rcases h with ⟨rfl, _⟩ | ⟨_, c, _, _, _, _, h5⟩
    · rfl
    · rw [onB, nBss_flatten]; exact h5.names hB
  | map es clk =>
    obtain ⟨_, a, _, h2⟩ := h
    exact h2.names hB
  | iter x since seen last =>
    obtain ⟨_, q, h1, _⟩ := h
    exact h1.names hB
  | dead => rfl
theorem OR.cutH {H H' : Heap} {l : Loc} {o : FO} (h : OR w F H m l o) (ho : onB (isS H') o = true) : OR w F H' m l o := by
  have hB : ∀ l, isS H' l = true → H' l ≠ none := fun l hl => by simpa [isS, Option.isSome_iff_ne_none] using hl
  cases o with
  | cells T sz xs =>
    rcases h with h | ⟨h0, c, h1, h2, h3, h4, h5⟩
    · exact .inl h
    · exact .inr ⟨h0, c, h1, h2, h3, h4, h5.cutU (by rw [← nBss_flatten]; exact ho) hB⟩
  | map es clk =>
    obtain ⟨h0, a, h1, h2⟩ := h
    exact ⟨h0, a, h1, h2.cutU ho hB⟩
  | iter x since seen last =>
    obtain ⟨h0, q, h1, h2⟩ := h
    exact ⟨h0, q, h1.cutU ho hB, h2⟩
  | dead => trivial
def Closed (H : Heap) : Prop := ∀ l o, H l = some o → onB (isS H) o = true
theorem HeapR.closed {H : Heap} (h : HeapR w F m H) : Closed H := fun l o ho => (h.obj l o ho).names


/-- what a function does over some blocks it does over more blocks, as long as these are enough and lead to themselves alone -/
theorem FC.frame {G : List (Nat × List Value)} {f : FuncId} {A : List FV} {Hn An : Heap} {r : FV} (h : FC P G f A Hn r (ext Hn An)) (hcl : Closed Hn) (hA : nBs (isS Hn) A = true) {H2 : Heap} (hs : HSub Hn H2) (hf : ∀ l, An l ≠ none → H2 l = none) :
    FC P G f A H2 r (ext H2 An) := by
  classical
  intro w F m vs hF hG hv hH
  have hB : ∀ l, isS Hn l = true → Hn l ≠ none := fun l hl => by simpa [isS, Option.isSome_iff_ne_none] using hl
  have live : ∀ l, Live Hn m l → Live H2 m l := fun l ⟨o, h1, h2, h3⟩ => ⟨o, hs l o h1, h2, h3⟩
  have hRn : HeapR w F m Hn := ⟨fun l o ho => (hH.obj l o (hs l o ho)).cutH (hcl l o ho), fun l l' hl hl' e => hH.inj l l' (live l hl) (live l' hl') e, fun l hl => hH.old l (live l hl)⟩
  refine (h w F m vs hF hG (hv.cutU hA hB) hRn).mono ?_
  rintro e w' ⟨v, F', m', rfl, k1, k2, k3, k4, k5, k6, k7, k8, k9, k10, k11⟩
  let m2 : Loc → Nat × Nat := fun l => if Hn l = none ∧ H2 l ≠ none then m l else m' l
  have e1 : ∀ l, ext Hn An l ≠ none → m2 l = m' l := fun l hl => by
    refine if_neg fun ⟨h1, h2⟩ => h2 (hf l fun hA => hl ?_)
    simp [ext, hA, h1]
  have e2 : ∀ l, H2 l ≠ none → m2 l = m l := fun l hl => by
    by_cases h1 : Hn l = none
    · exact if_pos ⟨h1, hl⟩
    · exact (if_neg fun h2 => h1 h2.1).trans (k3 l h1).1
  have hU : ∀ l, ext Hn An l ≠ none → ext H2 An l ≠ none := fun l hl => by
    unfold ext at hl ⊢
    cases hA : An l with
    | some o => simp
    | none =>
      rw [hA] at hl
      obtain ⟨o, ho⟩ := Option.ne_none_iff_exists'.1 hl
      simp [hs l o ho]
  have hU2 : ∀ l, H2 l ≠ none → ext H2 An l ≠ none := fun l hl => by
    unfold ext
    cases An l <;> simp [hl]
  have hFb : ∀ b, F b → w'.heap[b]? = w.heap[b]? := fun b hb => k8 b (hF b hb) fun l hl e => (hRn.old l hl).2 (e ▸ hb)
  -- a name of the whole: one of the function's, or one that it never saw
  have split : ∀ l o, ext H2 An l = some o → ext Hn An l = some o ∨ (H2 l = some o ∧ Hn l = none ∧ An l = none) := fun l o ho => by
    unfold ext at ho ⊢
    cases hA : An l with
    | some o' => rw [hA] at ho; exact .inl ho
    | none =>
      rw [hA] at ho
      cases hn : Hn l with
      | none => exact .inr ⟨ho, rfl, rfl⟩
      | some o' =>
        have := hs l o' hn
        rw [this] at ho
        exact .inl ho
  have far : ∀ l o, H2 l = some o → Hn l = none → o ≠ .dead → (m l).2 ≠ 0 → w'.heap[(m l).1]? = w.heap[(m l).1]? := fun l o ho hn hd h0 =>
    k8 _ (hH.old l ⟨o, ho, hd, h0⟩).1 fun k hk e => by
      have := hH.inj k l (live k hk) ⟨o, ho, hd, h0⟩ e
      subst this
      obtain ⟨o', h1, _⟩ := hk
      rw [hn] at h1; cases h1
  have cls : ∀ l, Live (ext H2 An) m2 l → Live (ext Hn An) m' l ∨ (Live H2 m l ∧ Hn l = none ∧ m2 l = m l) := fun l ⟨o, h1, h2, h3⟩ => by
    rcases split l o h1 with g | ⟨g1, g2, g3⟩
    · exact .inl ⟨o, g, h2, by rw [← e1 l (by rw [g]; simp)]; exact h3⟩
    · exact .inr ⟨⟨o, g1, h2, by rw [← e2 l (by rw [g1]; simp)]; exact h3⟩, g2, e2 l (by rw [g1]; simp)⟩
  have em : ∀ l, Live (ext Hn An) m' l → m2 l = m' l := fun l ⟨o, h1, _⟩ => e1 l (by rw [h1]; simp)
  have apart : ∀ l l', Live (ext Hn An) m' l → Live H2 m l' → Hn l' = none → (m' l).1 ≠ (m l').1 := fun l l' hl hl' hn e => by
    rcases k6 l hl with ⟨k, h1, h2⟩ | h1
    · have := hH.inj k l' (live k h1) hl' (h2.trans e)
      subst this
      obtain ⟨o, g, _⟩ := h1
      rw [hn] at g; cases g
    · have := (hH.old l' hl').1
      omega
  refine ⟨v, F', m2, rfl, k1, k2, fun l hl => ⟨e2 l hl, hU2 l hl⟩, k4.keep (fun _ h => h) (fun _ _ => rfl) hU e1, ⟨fun l o ho => ?_, fun l l' hl hl' e => ?_, fun l hl => ?_⟩, fun l hl => ?_, k7, fun y hy hn => k8 y hy fun l hl => hn l (live l hl), k9, k10, k11⟩
  · rcases split l o ho with g | ⟨g1, g2, g3⟩
    · exact (k5.obj l o g).keep (fun _ h => h) (fun _ _ => rfl) hU e1 (e1 l (by rw [g]; simp)) (fun _ _ => rfl)
    · exact (hH.obj l o g1).keep k1 hFb hU2 e2 (e2 l (by rw [g1]; simp)) (fun hd h0 => far l o g1 g2 hd h0)
  · rcases cls l hl with g | ⟨g1, g2, g3⟩ <;> rcases cls l' hl' with q | ⟨q1, q2, q3⟩
    · rw [em l g, em l' q] at e; exact k5.inj l l' g q e
    · rw [em l g, q3] at e; exact absurd e (apart l l' g q1 q2)
    · rw [g3, em l' q] at e; exact absurd e.symm (apart l' l q g1 g2)
    · rw [g3, q3] at e; exact hH.inj l l' g1 q1 e
  · rcases cls l hl with g | ⟨g1, g2, g3⟩
    · rw [em l g]; exact k5.old l g
    · rw [g3]
      refine ⟨by have := (hH.old l g1).1; omega, fun hF' => ?_⟩
      rcases (k2 _ hF').1 with h1 | h1
      · exact (hH.old l g1).2 h1
      · have := (hH.old l g1).1; omega
  · rcases cls l hl with g | ⟨g1, g2, g3⟩
    · rw [em l g]
      rcases k6 l g with ⟨k, h1, h2⟩ | h1
      · exact .inl ⟨k, live k h1, h2⟩
      · exact .inr h1
    · exact .inl ⟨l, g1, by rw [g3]⟩
end
end Go.FM
