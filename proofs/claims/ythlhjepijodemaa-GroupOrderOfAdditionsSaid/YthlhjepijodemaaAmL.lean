/- One of the texts of a proof by an abstract machine over the model. -/
import Derived.Test.YthlhjepijodemaaAmK
set_option linter.unusedSimpArgs false
set_option linter.unusedVariables false
namespace Go.AM
open Go

theorem flat_part {α : Type} (sz : Nat) : ∀ (xs : List (List α)) (i : Nat) (x : List α), (∀ x ∈ xs, x.length = sz) → xs[i]? = some x → (xs.flatten.drop (i * sz)).take sz = x
  | [], _, _, _, h => by simp at h
  | y :: ys, 0, x, hl, h => by
    simp at h; subst h
    have := hl y (by simp)
    simp [← this]
  | y :: ys, i + 1, x, hl, h => by
    have hy := hl y (by simp)
    have := flat_part sz ys i x (fun x hx => hl x (by simp [hx])) (by simpa using h)
    rw [List.flatten_cons, Nat.add_mul, Nat.one_mul, Nat.add_comm, ← List.drop_drop, ← hy, List.drop_left, hy]
    exact this

def collect (f : Nat → Option AV) : Nat → Nat → Option (List AV)
  | 0, _ => some []
  | n + 1, i => (f i).bind fun c => (collect f n (i + 1)).map (c :: ·)

section
variable {P : Program} {c : Cfg} {w0 w w' : World} {A0 : List Nat} {ps : List (Nat × Value)} {F F' : Nat → Prop} {bs bs' : Nat → List Nat} {fr fr' : List Nat} {s s' : St} {a a' : Act} {o : Oper}

theorem slT_some {t e : TypeId} {n : Nat} (h : slT P t = some (e, n)) : P.underlying t = some (.slice e) ∧ szT P e = some n := by
  unfold slT at h; split at h
  · rename_i h1
    rw [Option.map_eq_some_iff] at h
    obtain ⟨m, hm, e⟩ := h
    simp only [Prod.mk.injEq] at e
    obtain ⟨rfl, rfl⟩ := e
    exact ⟨h1, hm⟩
  · cases h

theorem cell_at (h : RelX w0 A0 ps F bs fr s a w) {r : Nat} {q : List Stp} {st : Stp} {x : AV} (hx : nodeAt (s.get r) (q ++ [st]) = some x) {base : Addr} (hb : (valC w (a.tmps.getD r undef) q).bind baseOf = some base) :
    ∃ v b, w.cell? (base.add st.k) = some v ∧ RV w F x v b ∧ valC w (a.tmps.getD r undef) (q ++ [st]) = some v := by
  have hh : (s.get r).isH = false := by
    by_cases hh : (s.get r).isH = true
    · have := nodeAt_isH hh hx; simp at this
    · simpa using hh
  obtain ⟨m, hm, hc⟩ := nodeAt_last hx
  obtain ⟨vq, l1, bq, l2, h1, h2, h3, h4⟩ := ((h.val r).nonh hh).path q hm
  rw [h1, Option.bind_some] at hb
  obtain ⟨v, k1, bc, k2, g1, g2, _⟩ := h2.step st hc
  have hcell : w.cell? (base.add st.k) = some v := by
    cases vq <;> simp [baseOf] at hb <;> simpa [val1, baseOf, hb] using g1
  exact ⟨v, bc, hcell, g2, by rw [valC_append, h1, Option.bind_some]; simp [valC, g1]⟩

def aField (P : Program) (c : Cfg) (o : Oper) (st : TypeId) (x : Operand) (f : Nat) (s : St) : Option St := match fldT P st f with
  | none => none
  | some off => match (ro P s 0 x).v with
    | .loc q p => if (ro P s 0 x).ok && (nodeAt (ro P s 0 x).root p).isSome then putD c o (.loc q (bump p off)) s else none
    | .ref cs => putD c o (.ref (cs.drop off)) s
    | _ => none
theorem run_field {st : TypeId} {f off : Nat} (h : fldT P st f = some off) (a : Addr) (w : World) : (Instr.fieldAt st (.pointer (some a)) f).run P w = .ok (.pointer (some (a.add off))) w := by
  unfold fldT at h
  split at h
  · rename_i fs hu
    split at h
    · rename_i x hx
      split at h
      · cases h
      · rename_i n hn0 hn
        obtain rfl := by simpa using h
        have hnz : n ≠ 0 := fun e => hn0 e
        simp [Instr.fieldAt, run_underlying hu, hx, Instr.sureAddr, fieldPlace, run_szT hn, hnz]
      · cases h
    · cases h
  · cases h
theorem aField_ok {st : TypeId} {x : Operand} {f : Nat} (hs : aField P c o st x f s = some s') (ho : o.op = .fieldAddr st x f) : Snd P c o s s' := by
  intro w0 A0 ps F bs fr a w hN hp h
  unfold aField at hs
  split at hs
  · cases hs
  · rename_i off hoff
    split at hs
    · rename_i q p hv
      split at hs
      · rename_i hc
        rw [Bool.and_eq_true] at hc
        obtain ⟨hok, hn⟩ := hc
        obtain ⟨e1, e2, q', st', rfl, e3⟩ := ro_loc h _ x hv hok
        rw [e1] at hn
        obtain ⟨u, hu⟩ := Option.isSome_iff_exists.1 hn
        obtain ⟨base, hb1, hb2⟩ := e3 u hu
        obtain ⟨bs', fr', h'⟩ := put_okH (x := .loc q (bump (q' ++ [st']) off)) (v := .pointer (some ((base.add st'.k).add off))) h hN hp ⟨rfl, fun _ => ⟨e2, q', _, bump_append q' st' off, fun _ _ => ⟨base, hb1, by rw [bump_k, add_add]⟩⟩⟩ hs
        exact ⟨bs', fr', _, w, .inl (by simp [execOp, ho, hb2, run_field hoff]), h'⟩
      · cases hs
    · rename_i cs hv
      obtain ⟨b, hb, _⟩ := ro_plain h 0 x (P := P) (by rw [hv]; rfl)
      rw [hv] at hb
      generalize hx : a.eval x = vx at hb
      cases hb with
      | ref _ ad vs hF hm hvs =>
      have hr : RV w F (.ref (cs.drop off)) (.pointer (some (ad.add off))) [] := .ref _ _ (vs.drop off) (by rw [block_add]; exact hF) (fun j v hj => by
        rw [add_add]; exact hm _ v (by rw [List.getElem?_drop] at hj; exact hj)) (hvs.drop off)
      obtain ⟨bs', fr', h'⟩ := put_ok (b := []) h hN hp hr hs
      exact ⟨bs', fr', _, w, .inl (by simp [execOp, ho, hx, run_field hoff]), h'⟩
    · cases hs

def aLoad (P : Program) (c : Cfg) (o : Oper) (t : TypeId) (x : Operand) (s : St) : Option St := match ldT P t with
  | none => none
  | some none => match (ro P s 0 x).v with
    | .loc q p => if (ro P s 0 x).ok then match nodeAt (ro P s 0 x).root p with
        | some v => if v.pureC then putD c o v s else if v.isOwn then putD c o (.bor q p) s else none
        | none => none
      else none
    | .ref (v :: _) => if v.pureC then putD c o v s else none
    | _ => none
  | some (some n) => match (ro P s 0 x).v with
    | .loc _ p => if (ro P s 0 x).ok then match collect (fun j => nodeAt (ro P s 0 x).root (bump p j)) n 0 with
        | some cs => if cs.all AV.pureC && decide (0 < n) then putD c o (.agg cs) s else none
        | none => none
      else none
    | .ref cs => if n ≤ cs.length then putD c o (.agg (cs.take n)) s else none
    | _ => none

theorem loads (h : RelX w0 A0 ps F bs fr s a w) {r : Nat} {q : List Stp} {st : Stp} {base : Addr} (hb : (valC w (a.tmps.getD r undef) q).bind baseOf = some base) : ∀ (n i : Nat) (cs : List AV),
    collect (fun j => nodeAt (s.get r) (bump (q ++ [st]) j)) n i = some cs → cs.all AV.pureC = true → ∃ vs : List Value, RVs w F cs vs [] ∧ vs.length = n ∧ ∀ (j : Nat) (v : Value), vs[j]? = some v → w.cell? ((base.add st.k).add (i + j)) = some v
  | 0, i, cs, h1, _ => by
    simp only [collect, Option.some.injEq] at h1
    subst h1
    exact ⟨[], .nil, rfl, fun j v hj => by simp at hj⟩
  | n + 1, i, cs, h1, h2 => by
    simp only [collect, Option.bind_eq_some_iff, Option.map_eq_some_iff] at h1
    obtain ⟨x, hx, cs', hcs, rfl⟩ := h1
    simp only [List.all_cons, Bool.and_eq_true] at h2
    rw [bump_append] at hx
    obtain ⟨v, b, g1, g2, _⟩ := cell_at h hx hb
    have := g2.pureC_nil h2.1
    subst this
    rw [bump_k] at g1
    obtain ⟨vs, k1, k2, k3⟩ := loads h hb n (i + 1) cs' hcs h2.2
    refine ⟨v :: vs, RVs.cons x v [] _ _ [] g2 k1, by simp [k2], fun j u hj => ?_⟩
    cases j with
    | zero => simp at hj; subst hj; rw [Nat.add_zero, add_add]; exact g1
    | succ j => have := k3 j u (by simpa using hj); rw [show i + (j + 1) = i + 1 + j by omega]; exact this

theorem aLoad_ok {t : TypeId} {x : Operand} (hs : aLoad P c o t x s = some s') (ho : o.op = .load t x) : Snd P c o s s' := by
  intro w0 A0 ps F bs fr a w hN hp h
  unfold aLoad at hs
  split at hs
  · cases hs
  · rename_i ht
    obtain ⟨hagg, _⟩ := run_ldT ht w
    split at hs
    · rename_i q p hv
      split at hs
      · rename_i hok
        obtain ⟨e1, e2, q', st', rfl, e3⟩ := ro_loc h _ x hv hok
        rw [e1] at hs
        split at hs
        · rename_i u hu
          obtain ⟨base, hb1, hb2⟩ := e3 u hu
          obtain ⟨v, b, g1, g2, g3⟩ := cell_at h hu hb1
          have hrun : Ran P o a w v w := .inl (by simp [execOp, ho, hb2, Instr.loadAt, Instr.sureAddr, loadVar, hagg, g1])
          split at hs
          · rename_i hpc
            have := g2.pureC_nil hpc
            subst this
            obtain ⟨bs', fr', h'⟩ := put_ok (b := []) h hN hp g2 hs
            exact ⟨bs', fr', v, w, hrun, h'⟩
          · split at hs
            · obtain ⟨bs', fr', h'⟩ := put_okH (x := .bor q (q' ++ [st'])) (v := v) h hN hp ⟨rfl, fun _ => ⟨e2, fun c hc _ => g3⟩⟩ hs
              exact ⟨bs', fr', v, w, hrun, h'⟩
            · cases hs
        · cases hs
      · cases hs
    · rename_i v cs hv
      split at hs
      · rename_i hpc
        obtain ⟨b, hb, _⟩ := ro_plain h 0 x (P := P) (by rw [hv]; rfl)
        rw [hv] at hb
        generalize hx : a.eval x = vx at hb
        cases hb with
        | ref _ ad vs hF hm hvs =>
        obtain ⟨u, bc, g1, g2, g3⟩ := hvs.get 0 (c := v) rfl
        have := g2.pureC_nil hpc
        subst this
        have hcell := hm 0 u g1
        obtain ⟨bs', fr', h'⟩ := put_ok (b := []) h hN hp g2 hs
        have e0 : ad.add 0 = ad := by simp [Addr.add]
        rw [e0] at hcell
        exact ⟨bs', fr', u, w, .inl (by simp [execOp, ho, hx, Instr.loadAt, Instr.sureAddr, loadVar, hagg, hcell]), h'⟩
      · cases hs
    · cases hs
  · rename_i n ht
    obtain ⟨hagg, hsz⟩ := run_ldT ht w
    have hsz := hsz n rfl
    split at hs
    · rename_i q p hv
      split at hs
      · rename_i hok
        obtain ⟨e1, e2, q', st', rfl, e3⟩ := ro_loc h _ x hv hok
        rw [e1] at hs
        split at hs
        · rename_i cs hcs
          split at hs
          · rename_i hpc
            rw [Bool.and_eq_true] at hpc
            obtain ⟨hpc, hn⟩ := hpc
            have hn := of_decide_eq_true hn
            have hu : ∃ u, nodeAt (s.get q) (q' ++ [st']) = some u := by
              cases n with
              | zero => omega
              | succ n =>
                simp only [collect, Option.bind_eq_some_iff] at hcs
                obtain ⟨u, hu, _⟩ := hcs
                rw [bump_append] at hu
                exact ⟨u, hu⟩
            obtain ⟨u, hu⟩ := hu
            obtain ⟨base, hb1, hb2⟩ := e3 u hu
            obtain ⟨vs, k1, k2, k3⟩ := loads h hb1 n 0 cs hcs hpc
            have hl := run_loadCells_list (P := P) (w := w) (base.add st'.k) vs (fun j v hj => by simpa using k3 j v hj)
            rw [k2] at hl
            obtain ⟨bs', fr', h'⟩ := put_ok (b := []) h hN hp (RV.agg cs vs [] k1) hs
            exact ⟨bs', fr', _, w, .inl (by simp [execOp, ho, hb2, Instr.loadAt, Instr.sureAddr, loadVar, hagg, run_szT hsz, hl]), h'⟩
          · cases hs
        · cases hs
      · cases hs
    · rename_i cs hv
      split at hs
      · rename_i hn
        obtain ⟨b, hb, _⟩ := ro_plain h 0 x (P := P) (by rw [hv]; rfl)
        rw [hv] at hb
        generalize hx : a.eval x = vx at hb
        cases hb with
        | ref _ ad vs hF hm hvs =>
        have hvl : (vs.take n).length = n := by rw [List.length_take, ← hvs.length]; omega
        have hl := run_loadCells_list (P := P) (w := w) ad (vs.take n) (fun j v hj => hm j v (by
          rw [List.getElem?_take] at hj; split at hj
          · exact hj
          · cases hj))
        rw [hvl] at hl
        obtain ⟨bs', fr', h'⟩ := put_ok (b := []) h hN hp (RV.agg _ _ [] (hvs.take n)) hs
        exact ⟨bs', fr', _, w, .inl (by simp [execOp, ho, hx, Instr.loadAt, Instr.sureAddr, loadVar, hagg, run_szT hsz, hl]), h'⟩
      · cases hs
    · cases hs
end
end Go.AM
