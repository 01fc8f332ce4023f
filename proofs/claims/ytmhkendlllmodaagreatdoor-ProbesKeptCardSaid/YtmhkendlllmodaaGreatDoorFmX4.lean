/- One of the texts of a proof by an abstract machine over the model. -/
import Derived.Test.YtmhkendlllmodaaGreatDoorFmX3
set_option linter.unusedSimpArgs false
set_option linter.unusedVariables false
namespace Go.FM
open Go

theorem toH_eq (h : Hp) (k : Nat) : toH h [k] = if k < 2 ^ hpD then h.get hpD k else none := by
  show (bif Nat.ble (k + 1) (2 ^ hpD) then h.getF hpD k else none) = _
  rw [T.ble_lt, T.getF_eq]
  by_cases hk : k < 2 ^ hpD <;> simp [hk]
theorem toH_other (h : Hp) (l : Loc) (hl : ∀ k, l ≠ [k]) : toH h l = none := by
  match l with
  | [] => rfl
  | [k] => exact absurd rfl (hl k)
  | _ :: _ :: _ => rfl
theorem loc_cases (l : Loc) : (∃ k, l = [k]) ∨ ∀ k, l ≠ [k] := by
  match l with
  | [] => exact .inr fun k h => by cases h
  | [k] => exact .inl ⟨k, rfl⟩
  | _ :: _ :: _ => exact .inr fun k h => by cases h
theorem toH_setF (h : Hp) (k : Nat) (o : FO) (hk : k < 2 ^ hpD) : toH (h.setF o hpD k) = upd (toH h) [k] o := by
  funext l
  rcases loc_cases l with ⟨j, rfl⟩ | hl
  · rw [toH_eq, T.setF_eq]
    unfold upd
    by_cases hj : j < 2 ^ hpD
    · rw [if_pos hj, T.get_set hpD h k j o hk hj, toH_eq, if_pos hj]
      by_cases e : j = k <;> simp [e]
    · have : j ≠ k := fun e => hj (e ▸ hk)
      rw [if_neg hj, toH_eq, if_neg hj]
      simp [this]
  · rw [toH_other _ l hl]
    unfold upd
    rw [if_neg (hl k), toH_other _ l hl]
theorem xUps_ok {lo : Nat} : ∀ (us : List (Loc × FO)) (h h' : Hp), xUps lo us h = some h' → toH h' = upds (toH h) us ∧ ∀ k, k < lo → toH h' [k] = toH h [k]
  | [], h, h', e => by
    obtain rfl := Option.some.inj e
    exact ⟨rfl, fun _ _ => rfl⟩
  | (l, o) :: us, h, h', e => by
    unfold xUps at e
    split at e
    case h_2 => cases e
    rename_i k
    rw [T.ble_lt] at e
    cases h1 : Nat.ble lo k with
    | false => rw [h1] at e; cases e
    | true =>
      rw [h1] at e
      have h1 := Nat.le_of_ble_eq_true h1
      by_cases h2 : k < 2 ^ hpD
      · simp only [h2, decide_true, cond_true] at e
        obtain ⟨g1, g2⟩ := xUps_ok us _ _ e
        rw [toH_setF h k o h2] at g1 g2
        refine ⟨g1, fun j hj => ?_⟩
        rw [g2 j hj]
        have : [j] ≠ [k] := fun e => by
          have := (List.cons.inj e).1
          omega
        simp only [upd, this, if_false]
      · simp [h2] at e

/-- a run's state and the machine's -/
def Sim (s : XS) (fs : FS) : Prop := (∀ t, fs.get t = s.get t) ∧ fs.H = toH s.hp
theorem XS.get_eq (s : XS) (t : Nat) : s.get t = if t < 2 ^ s.d then (s.sl.get s.d t).getD .undef else .undef := by
  unfold XS.get
  rw [T.ble_lt, T.getF_eq]
  by_cases h : t < 2 ^ s.d
  · simp only [h, decide_true, cond_true, if_true]
    cases s.sl.get s.d t <;> rfl
  · simp [h]
theorem Sim.rv {s : XS} {fs : FS} (h : Sim s fs) : rv fs = xrv s := by
  funext x
  cases x with
  | tmp t => exact h.1 t
  | _ => rfl
theorem Sim.hp {s : XS} {fs : FS} (h : Sim s fs) {hp' : Hp} {n' : Nat} : Sim ⟨s.d, s.sl, hp', n'⟩ { fs with H := toH hp' } := ⟨h.1, rfl⟩
section
variable {P : Program} {c : Cfg} {N : Nat} {o : Oper} {s s' : XS} {fs : FS}
theorem xPut_ok {v : FV} (h : xPut N o v s = some s') (hs : Sim s fs) (hN : c.N = N) : ∃ fs', putD c o v fs = some fs' ∧ Sim s' fs' ∧ fs'.ix = fs.ix ∧ s'.hp = s.hp ∧ s'.n = s.n := by
  unfold xPut at h
  unfold putD
  split at h
  · rename_i hd
    obtain rfl := Option.some.inj h
    exact ⟨fs, by rw [hd], hs, rfl, rfl, rfl⟩
  · rename_i k hd
    rw [T.ble_lt, T.ble_lt] at h
    by_cases h1 : k < N
    · simp only [h1, decide_true, cond_true] at h
      by_cases h2 : k < 2 ^ s.d
      · simp only [h2, decide_true, cond_true, Option.some.injEq] at h
        subst h
        refine ⟨fs.put k v, by rw [hd]; simp only; rw [if_pos (by rw [hN]; exact h1)], ⟨fun t => ?_, by rw [H_put]; exact hs.2⟩, ix_put _ _ _, rfl, rfl⟩
        rw [get_put, XS.get_eq]
        show _ = if t < 2 ^ s.d then ((s.sl.setF v s.d k).get s.d t).getD .undef else .undef
        rw [T.setF_eq]
        by_cases h3 : t < 2 ^ s.d
        · rw [if_pos h3, T.get_set s.d s.sl k t v h2 h3]
          by_cases e : t = k
          · simp [e]
          · simp only [e, if_false]
            rw [hs.1 t, XS.get_eq, if_pos h3]
        · have : t ≠ k := fun e => h3 (e ▸ h2)
          rw [if_neg h3, if_neg this, hs.1 t, XS.get_eq, if_neg h3]
      · simp [h2] at h
    · simp [h1] at h
theorem xDo_val {H : Heap} {nm : Loc} {ρ : Operand → FV} {us : List (Loc × FO)} {v : FV} (h : xDo P H nm ρ o = .val us v) : calleeR ρ o = none ∧ wv P H nm ρ o = some (us, v) := by
  have ofV : ∀ (x : Option FV), XR.ofV x = .val us v → x = some v ∧ us = [] := fun x hx => by
    cases x with
    | none => cases hx
    | some y => simp only [XR.ofV, XR.val.injEq] at hx; exact ⟨by rw [hx.2], hx.1.symm⟩
  have of : ∀ (x : Option (List (Loc × FO) × FV)), XR.of x = .val us v → x = some (us, v) := fun x hx => by
    cases x with
    | none => cases hx
    | some y => obtain ⟨a, b⟩ := y; simp only [XR.of, XR.val.injEq] at hx; rw [hx.1, hx.2]
  unfold xDo at h
  split at h
  · rename_i x ho
    simp only [XR.val.injEq] at h
    obtain ⟨rfl, rfl⟩ := h
    exact ⟨by simp [calleeR, ho], by simp [wv, ho, pv, pv1]⟩
  · rename_i x ho
    simp only [XR.val.injEq] at h
    obtain ⟨rfl, rfl⟩ := h
    exact ⟨by simp [calleeR, ho], by simp [wv, ho, pv, pv1]⟩
  · rename_i t x ho
    obtain ⟨h1, rfl⟩ := ofV _ h
    exact ⟨by simp [calleeR, ho], by simp [wv, ho, pv, pv1, h1]⟩
  · rename_i st x f ho
    obtain ⟨h1, rfl⟩ := ofV _ h
    exact ⟨by simp [calleeR, ho], by simp [wv, ho, pv, pv1, h1]⟩
  · rename_i t x i ho
    obtain ⟨h1, rfl⟩ := ofV _ h
    exact ⟨by simp [calleeR, ho], by simp [wv, ho, pv, pv1, h1]⟩
  · rename_i t ad x ho
    exact ⟨by simp [calleeR, ho], by simp only [wv, ho]; exact of _ h⟩
  · rename_i op t x y ty ho
    split at h
    · rename_i r hr
      simp only [XR.val.injEq] at h
      obtain ⟨rfl, rfl⟩ := h
      exact ⟨by simp [calleeR, ho], by simp [wv, ho, pv, pv1, hr]⟩
    · exact ⟨by simp [calleeR, ho], of _ h⟩
  · rename_i x ho
    obtain ⟨h1, rfl⟩ := ofV _ h
    exact ⟨by simp [calleeR, ho], by simp [wv, ho, pv, pv1, pv2, h1]⟩
  · rename_i x y z ho
    split at h
    · rename_i hb
      simp only [XR.val.injEq] at h
      obtain ⟨rfl, rfl⟩ := h
      exact ⟨by simp [calleeR, ho], by simp [wv, ho, pv, pv1, hb]⟩
    · rename_i hb
      simp only [XR.val.injEq] at h
      obtain ⟨rfl, rfl⟩ := h
      exact ⟨by simp [calleeR, ho], by simp [wv, ho, pv, pv1, hb]⟩
    · cases h
  · rename_i x i ho
    split at h
    · rename_i cs hc
      obtain ⟨h1, rfl⟩ := ofV _ h
      exact ⟨by simp [calleeR, ho], by simp [wv, ho, pv, pv1, hc, h1]⟩
    · cases h
  · split at h <;> cases h
  · rename_i n1 n2 n3 n4 n5 n6 n7 n8 n9 n10 n11
    refine ⟨?_, of _ h⟩
    unfold calleeR
    split
    · rename_i x args ts ho
      exact absurd ho (n11 x args ts)
    · rfl
theorem xDo_call {H : Heap} {nm : Loc} {ρ : Operand → FV} {f : FuncId} {A : List FV} (h : xDo P H nm ρ o = .call f A) : calleeR ρ o = some (f, A) := by
  have ofV : ∀ (x : Option FV), XR.ofV x = .call f A → False := fun x hx => by cases x <;> cases hx
  have of : ∀ (x : Option (List (Loc × FO) × FV)), XR.of x = .call f A → False := fun x hx => by cases x <;> cases hx
  unfold xDo at h
  split at h
  all_goals first
    | (cases h; done)
    | exact (ofV _ h).elim
    | exact (of _ h).elim
    | skip
  · split at h
    · cases h
    · exact (of _ h).elim
  · split at h <;> cases h
  · split at h
    · exact (ofV _ h).elim
    · cases h
  · rename_i x args ts ho
    split at h
    · rename_i g first caps hx
      simp only [XR.call.injEq] at h
      obtain ⟨rfl, rfl⟩ := h
      simp [calleeR, ho, hx]
    · cases h
theorem callee_R (fs : FS) : callee? fs o = calleeR (rv fs) o := rfl
theorem guard_R (ops : Array Oper) (fs : FS) : guardV ops o fs = guardR ops o fs.get := rfl

/-- what a run's calls are -/
def CallOk (P : Program) (G : List (Nat × List Value)) (call : XC) : Prop := ∀ lo f A hp n r hp' n', call lo f A hp n = some (r, hp', n') → FC P G f A (toH hp) r (toH hp') ∧ ∀ k, k < lo → toH hp' [k] = toH hp [k]

variable {call : XC} {lo : Nat} {ix : List Nat} {ops : Array Oper}
theorem xPut_hp {v : FV} (h : xPut N o v s = some s') : s'.hp = s.hp ∧ s'.n = s.n := by
  unfold xPut at h
  split at h
  · obtain rfl := Option.some.inj h; exact ⟨rfl, rfl⟩
  · rename_i k _
    cases h1 : Nat.ble (k + 1) N with
    | false => rw [h1] at h; cases h
    | true =>
      rw [h1] at h
      cases h2 : Nat.ble (k + 1) (2 ^ s.d) with
      | false => rw [h2] at h; cases h
      | true =>
        rw [h2] at h
        obtain rfl := Option.some.inj h; exact ⟨rfl, rfl⟩
theorem xStep_lo {G : List (Nat × List Value)} (hc : CallOk P G call) (h : xStep P call N lo ix o s = some s') : ∀ k, k < lo → toH s'.hp [k] = toH s.hp [k] := by
  unfold xStep at h
  split at h
  · split at h
    case h_2 => cases h
    rename_i hp' hu
    intro k hk
    rw [(xPut_hp h).1]
    exact (xUps_ok _ _ _ hu).2 k hk
  · rename_i f A hd
    cases hf : fnOk P f with
    | false => rw [hf] at h; cases h
    | true =>
      rw [hf] at h
      simp only [cond_true] at h
      split at h
      case h_2 => cases h
      rename_i r hp' n' hcall
      intro k hk
      rw [(xPut_hp h).1]
      exact (hc _ _ _ _ _ _ _ _ hcall).2 k hk
  · cases h
theorem xStep_ok (hc : CallOk P c.G call) (h : xStep P call N lo ix o s = some s') (hs : Sim s fs) (hix : fs.ix = ix) (hN : c.N = N) (hnm : c.nm = nmX) {K : FS → Prop} (hK : ∀ fs', Sim s' fs' → fs'.ix = ix → K fs') : wStep P c o fs K := by
  unfold xStep at h
  split at h
  · rename_i us v hd
    split at h
    case h_2 => cases h
    rename_i hp' hu
    obtain ⟨g1, g2⟩ := xDo_val hd
    obtain ⟨u1, u2⟩ := xUps_ok us _ _ hu
    have hs' : Sim ⟨s.d, s.sl, hp', s.n⟩ { fs with H := toH hp' } := hs.hp
    obtain ⟨fs', p1, p2, p3, p4, p5⟩ := xPut_ok h hs' hN
    unfold wStep
    rw [callee_R, hs.rv, g1]
    refine ⟨fs', ?_, hK fs' p2 (p3.trans hix)⟩
    have hw : wv P fs.H (c.nm (o.dst.getD 0) fs.ix) (FM.rv fs) o = some (us, v) := by rw [hnm, hix, hs.2, hs.rv]; exact g2
    unfold fStep
    rw [hw]
    simp only
    rw [hs.2, ← u1]
    exact p1
  · rename_i f A hd
    cases hf : fnOk P f with
    | false => rw [hf] at h; cases h
    | true =>
      rw [hf] at h
      simp only [cond_true] at h
      split at h
      case h_2 => cases h
      rename_i r hp' n' hcall
      obtain ⟨q1, q2⟩ := hc _ _ _ _ _ _ _ _ hcall
      have hs' : Sim ⟨s.d, s.sl, hp', n'⟩ { fs with H := toH hp' } := hs.hp
      obtain ⟨fs', p1, p2, p3, p4, p5⟩ := xPut_ok h hs' hN
      unfold wStep
      rw [callee_R, hs.rv, xDo_call hd]
      exact ⟨hf, r, toH hp', by rw [hs.2]; exact q1, fs', p1, hK fs' p2 (p3.trans hix)⟩
  · cases h
theorem xOps_lo {G : List (Nat × List Value)} (hc : CallOk P G call) : ∀ (l : List Oper) (s s' : XS), xOps P call N lo ix ops l s = some s' → ∀ k, k < lo → toH s'.hp [k] = toH s.hp [k]
  | [], s, s', h => by obtain rfl := Option.some.inj h; exact fun _ _ => rfl
  | o :: rest, s, s', h => by
    unfold xOps at h
    split at h
    · split at h
      case h_2 => cases h
      rename_i s1 h1
      intro k hk
      rw [xOps_lo hc rest s1 s' h k hk, xStep_lo hc h1 k hk]
    · split at h
      case h_2 => cases h
      rename_i s1 h1
      intro k hk
      rw [xOps_lo hc rest s1 s' h k hk, (xPut_hp h1).1]
    · cases h
theorem xOps_ok (hc : CallOk P c.G call) (hN : c.N = N) (hnm : c.nm = nmX) {K : FS → Prop} : ∀ (l : List Oper) (s s' : XS) (fs : FS), xOps P call N lo ix ops l s = some s' → Sim s fs → fs.ix = ix → (∀ fs', Sim s' fs' → K fs') → wOps P c ops l K fs
  | [], s, s', fs, h, hs, hix, hK => by
    obtain rfl := Option.some.inj h
    exact hK fs hs
  | o :: rest, s, s', fs, h, hs, hix, hK => by
    unfold xOps at h
    have hg : guardV ops o fs = guardR ops o s.get := by rw [guard_R, show fs.get = s.get from funext hs.1]
    split at h
    · rename_i hgt
      split at h
      case h_2 => cases h
      rename_i s1 h1
      simp only [wOps, hg, hgt]
      exact xStep_ok (K := wOps P c ops rest K) hc h1 hs hix hN hnm (fun fs' h1 h2 => xOps_ok hc hN hnm rest s1 s' fs' h h1 h2 hK)
    · rename_i hgt
      split at h
      case h_2 => cases h
      rename_i s1 h1
      obtain ⟨fs', p1, p2, p3, p4, p5⟩ := xPut_ok (c := c) h1 hs hN
      simp only [wOps, hg, hgt]
      exact ⟨fs', p1, xOps_ok hc hN hnm rest s1 s' fs' h p2 (p3.trans hix) hK⟩
    · cases h

/-! ### heads -/
structure HAOk (A : HA) : Prop where
  sub : ∀ h l ob, toH (A.add h) l = some ob → A.A l = some ob ∨ toH h l = some ob
  up : ∀ h l, toH h l ≠ none → toH (A.add h) l ≠ none
  names : ∀ U, A.ok U = true → ∀ l ob, A.A l = some ob → onB U ob = true
theorem upds_some : ∀ (us : List (Loc × FO)) (H : Heap) (l : Loc) (ob : FO), upds H us l = some ob → (∃ u ∈ us, u.1 = l ∧ u.2 = ob) ∨ H l = some ob
  | [], _, _, _, h => .inr h
  | u :: us, H, l, ob, h => by
    rcases upds_some us (upd H u.1 u.2) l ob h with ⟨x, h1, h2⟩ | h
    · exact .inl ⟨x, by simp [h1], h2⟩
    · unfold upd at h
      split at h
      · rename_i e
        exact .inl ⟨u, by simp, e.symm, by simpa using h⟩
      · exact .inr h
theorem putU_toH : ∀ (us : List (Loc × FO)) (h : Hp) (l : Loc) (ob : FO), (∀ u ∈ us, ∃ k, u.1 = [k] ∧ k < 2 ^ hpD) → toH (putU us h) l = upds (toH h) us l
  | [], _, _, _, _ => rfl
  | (k, o) :: us, h, l, ob, hu => by
    obtain ⟨j, hj0, hj⟩ := hu (k, o) (by simp)
    have hj0 : k = [j] := hj0
    subst hj0
    show toH (putU us (h.setF o hpD j)) l = upds (upd (toH h) [j] o) us l
    rw [putU_toH us _ l ob (fun u hm => hu u (by simp [hm])), toH_setF h j o hj]
theorem xUps_keys {lo : Nat} : ∀ (us : List (Loc × FO)) (h h' : Hp), xUps lo us h = some h' → ∀ u ∈ us, ∃ k, u.1 = [k] ∧ k < 2 ^ hpD
  | [], _, _, _, _, hu => by cases hu
  | (l, o) :: us, h, h', e, u, hu => by
    unfold xUps at e
    split at e
    case h_2 => cases e
    rename_i k
    rw [T.ble_lt] at e
    cases h1 : Nat.ble lo k with
    | false => rw [h1] at e; cases e
    | true =>
      rw [h1] at e
      by_cases h2 : k < 2 ^ hpD
      · simp only [h2, decide_true, cond_true] at e
        rcases List.mem_cons.1 hu with rfl | hu
        · exact ⟨k, rfl, h2⟩
        · exact xUps_keys us _ _ e u hu
      · simp [h2] at e
theorem haU_ok {us : List (Loc × FO)} (hu : ∀ u ∈ us, ∃ k, u.1 = [k] ∧ k < 2 ^ hpD) : HAOk (haU us) where
  sub h l ob hl := by
    have hl : toH (putU us h) l = some ob := hl
    rw [putU_toH us h l ob hu, upds_noH] at hl
    show upds noH us l = some ob ∨ _
    unfold ext at hl
    cases hA : upds noH us l with
    | some o => rw [hA] at hl; exact .inl hl
    | none => rw [hA] at hl; exact .inr hl
  up h l hl := by
    show toH (putU us h) l ≠ none
    obtain ⟨ob, _⟩ := Option.ne_none_iff_exists'.1 hl
    rw [putU_toH us h l ob hu]
    exact upds_ne us hl
  names U hU l ob hl := by
    have hl : upds noH us l = some ob := hl
    have hU : (us.all fun u => onB U u.2) = true := hU
    rcases upds_some us noH l ob hl with ⟨u, h1, _, rfl⟩ | h
    · exact List.all_eq_true.1 hU u h1
    · cases h
theorem fromK_eq (lo k : Nat) (h : Hp) : fromK lo h [k] = if lo ≤ k then toH h [k] else none := by
  show (bif Nat.ble lo k then (bif Nat.ble (k + 1) (2 ^ hpD) then h.getF hpD k else none) else none) = _
  cases h1 : Nat.ble lo k with
  | false =>
    have : ¬ lo ≤ k := fun h' => by rw [Nat.ble_eq_true_of_le h'] at h1; cases h1
    simp [this]
  | true =>
    have := Nat.le_of_ble_eq_true h1
    simp only [cond_true, this, if_true]
    rfl
theorem fromK_other (lo : Nat) (h : Hp) (l : Loc) (hl : ∀ k, l ≠ [k]) : fromK lo h l = none := by
  match l with
  | [] => rfl
  | [k] => exact absurd rfl (hl k)
  | _ :: _ :: _ => rfl
theorem join_toH {lo : Nat} {h hp' : Hp} (hu : h.under hpD lo = true) : toH (h.join hpD hp' lo) = ext (toH h) (fromK lo hp') := by
  funext l
  rcases loc_cases l with ⟨k, rfl⟩ | hl
  · unfold ext
    rw [fromK_eq, toH_eq, toH_eq, toH_eq]
    by_cases hk : k < 2 ^ hpD
    · simp only [hk, if_true]
      rw [T.get_join hpD h hp' lo k hk]
      by_cases h1 : k < lo
      · have : ¬ lo ≤ k := by omega
        simp [h1, this]
      · have h2 : lo ≤ k := by omega
        simp only [h1, if_false, h2, if_true]
        rw [T.get_under hpD h lo k hu h2 hk]
        cases T.get hpD hp' k <;> rfl
    · simp [hk]
  · unfold ext
    rw [toH_other _ l hl, fromK_other _ _ l hl, toH_other _ l hl]
theorem under_none {lo k : Nat} {h : Hp} (hu : h.under hpD lo = true) (hk : lo ≤ k) : toH h [k] = none := by
  rw [toH_eq]
  by_cases h1 : k < 2 ^ hpD
  · rw [if_pos h1]; exact T.get_under hpD h lo k hu hk h1
  · rw [if_neg h1]
theorem haC_ok (lo : Nat) (hp' : Hp) : HAOk (haC lo hp') where
  sub h l ob hl := by
    have hl : toH (bif h.under hpD lo then h.join hpD hp' lo else h) l = some ob := hl
    cases hu : h.under hpD lo with
    | false => rw [hu] at hl; exact .inr hl
    | true =>
      rw [hu] at hl
      simp only [cond_true] at hl
      rw [join_toH hu] at hl
      show fromK lo hp' l = some ob ∨ _
      unfold ext at hl
      cases hA : fromK lo hp' l with
      | some o => rw [hA] at hl; exact .inl hl
      | none => rw [hA] at hl; exact .inr hl
  up h l hl := by
    show toH (bif h.under hpD lo then h.join hpD hp' lo else h) l ≠ none
    cases hu : h.under hpD lo with
    | false => exact hl
    | true =>
      simp only [cond_true]
      rw [join_toH hu]
      unfold ext
      cases fromK lo hp' l <;> simp [hl]
  names U hU l ob hl := by
    have hl : fromK lo hp' l = some ob := hl
    have hU : hp'.allFrom (onB U) hpD lo = true := hU
    rcases loc_cases l with ⟨k, rfl⟩ | hl'
    · rw [fromK_eq] at hl
      split at hl
      · rename_i hk
        rw [toH_eq] at hl
        split at hl
        · exact T.get_allFrom _ hpD hp' lo k ob hU hk ‹_› hl
        · cases hl
      · cases hl
    · rw [fromK_other _ _ l hl'] at hl; cases hl
theorem needH_sub (H0 : Heap) : ∀ (As : List HA) (j : Nat) (l : Loc) (ob : FO), needH H0 o j As l = some ob → H0 l = some ob ∨ ∃ i Aj, As[i]? = some Aj ∧ waitsB o (j + i) = true ∧ Aj.A l = some ob
  | [], _, _, _, h => .inl h
  | A :: As, j, l, ob, h => by
    have again : needH H0 o (j + 1) As l = some ob → H0 l = some ob ∨ ∃ i Aj, (A :: As)[i]? = some Aj ∧ waitsB o (j + i) = true ∧ Aj.A l = some ob := fun h => by
      rcases needH_sub H0 As (j + 1) l ob h with g | ⟨i, Aj, g1, g2, g3⟩
      · exact .inl g
      · exact .inr ⟨i + 1, Aj, by simpa using g1, by rw [show j + (i + 1) = j + 1 + i by omega]; exact g2, g3⟩
    unfold needH at h
    split at h
    · rename_i hw
      split at h
      · rename_i ob' hA
        exact .inr ⟨0, A, rfl, by simpa using hw, hA.trans h⟩
      · exact again h
    · exact again h
theorem needT_sub : ∀ (As : List HA) (j : Nat) (h : Hp) (l : Loc) (ob : FO), (∀ A ∈ As, HAOk A) → toH (needT o j As h) l = some ob → toH h l = some ob ∨ ∃ i Aj, As[i]? = some Aj ∧ waitsB o (j + i) = true ∧ Aj.A l = some ob
  | [], _, _, _, _, _, h => .inl h
  | A :: As, j, h, l, ob, hok, hl => by
    have again : ∀ h1 : Hp, toH (needT o (j + 1) As h1) l = some ob → toH h1 l = some ob ∨ ∃ i Aj, (A :: As)[i]? = some Aj ∧ waitsB o (j + i) = true ∧ Aj.A l = some ob := fun h1 hl => by
      rcases needT_sub As (j + 1) h1 l ob (fun B hB => hok B (by simp [hB])) hl with g | ⟨i, Aj, g1, g2, g3⟩
      · exact .inl g
      · exact .inr ⟨i + 1, Aj, by simpa using g1, by rw [show j + (i + 1) = j + 1 + i by omega]; exact g2, g3⟩
    unfold needT at hl
    split at hl
    · rename_i hw
      rcases again _ hl with g | g
      · rcases (hok A (by simp)).sub h l ob g with g | g
        · exact .inr ⟨0, A, rfl, by simpa using hw, g⟩
        · exact .inl g
      · exact .inr g
    · exact again _ hl
theorem needT_up : ∀ (As : List HA) (j : Nat) (h : Hp) (l : Loc), (∀ A ∈ As, HAOk A) → toH h l ≠ none → toH (needT o j As h) l ≠ none
  | [], _, _, _, _, h => h
  | A :: As, j, h, l, hok, hl => by
    unfold needT
    split
    · exact needT_up As (j + 1) _ l (fun B hB => hok B (by simp [hB])) ((hok A (by simp)).up h l hl)
    · exact needT_up As (j + 1) _ l (fun B hB => hok B (by simp [hB])) hl
theorem needOk_names {U : Loc → Bool} : ∀ (As : List HA) (j : Nat), (∀ A ∈ As, HAOk A) → needOk o U j As = true → ∀ i Aj, As[i]? = some Aj → waitsB o (j + i) = true → ∀ l ob, Aj.A l = some ob → onB U ob = true
  | [], _, _, _, i, Aj, h, _ => by simp at h
  | A :: As, j, hok, h, i, Aj, hi, hw => by
    unfold needOk at h
    cases i with
    | zero =>
      simp only [List.getElem?_cons_zero, Option.some.injEq] at hi
      subst hi
      rw [if_pos (by simpa using hw), Bool.and_eq_true] at h
      exact (hok A (by simp)).names U h.1
    | succ i =>
      have hw' : waitsB o (j + 1 + i) = true := by rw [show j + 1 + i = j + (i + 1) by omega]; exact hw
      have hi' : As[i]? = some Aj := by simpa using hi
      split at h
      · rw [Bool.and_eq_true] at h
        exact needOk_names As (j + 1) (fun B hB => hok B (by simp [hB])) h.2 i Aj hi' hw'
      · exact needOk_names As (j + 1) (fun B hB => hok B (by simp [hB])) h i Aj hi' hw'
end
end Go.FM
