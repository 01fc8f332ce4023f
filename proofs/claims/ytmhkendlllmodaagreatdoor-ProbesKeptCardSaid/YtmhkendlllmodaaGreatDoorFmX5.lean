/- One of the texts of a proof by an abstract machine over the model. -/
import Derived.Test.YtmhkendlllmodaaGreatDoorFmX4
set_option linter.unusedSimpArgs false
set_option linter.unusedVariables false
namespace Go.FM
open Go
section
variable {P : Program} {c : Cfg} {N LF n : Nat} {o : Oper} {s s' : XS} {fs : FS} {call : XC} {lo : Nat} {ix : List Nat} {ops : Array Oper} {h0 : Hp} {As : List HA} {A : HA}

theorem xPut_put {v : FV} {d : Nat} (hd : o.dst = some d) (h : xPut N o v s = some s') (hs : Sim s fs) (hN : c.N = N) : d < c.N ∧ Sim s' (fs.put d v) ∧ (fs.put d v).ix = fs.ix := by
  obtain ⟨fs', p1, p2, p3, _, _⟩ := xPut_ok (c := c) h hs hN
  unfold putD at p1
  rw [hd] at p1
  simp only at p1
  split at p1
  · rename_i hlt
    obtain rfl := Option.some.inj p1
    exact ⟨hlt, p2, p3⟩
  · cases p1
theorem freshU_ok {h : Hp} : ∀ {us : List (Loc × FO)}, freshU h us = true → ∀ u ∈ us, toH h u.1 = none
  | [], _, _, hu => by cases hu
  | x :: us, hf, u, hu => by
    unfold freshU at hf
    rw [Bool.and_eq_true, Option.isNone_iff_eq_none] at hf
    rcases List.mem_cons.1 hu with rfl | hu
    · exact hf.1
    · exact freshU_ok hf.2 u hu
theorem xHead_ok (hc : CallOk P c.G call) (hN : c.N = N) (hnm : c.nm = nmX) (hcl : Closed (toH h0)) {d : Nat} (hd : o.dst = some d) (hg : guardV ops o fs = some true) (hAs : ∀ A ∈ As, HAOk A) (h : xHead P call N lo ix h0 As o s = some (s', A)) (hs : Sim s fs) (hix : fs.ix = ix) :
    HAOk A ∧ ∃ v Hn, Calm P c ops o { fs with H := Hn } d v A.A ∧ (∀ l, A.A l ≠ none → fs.H l = none) ∧ (∀ l ob, Hn l = some ob → toH h0 l = some ob ∨ ∃ j Aj, (As.map HA.A)[j]? = some Aj ∧ waitsB o j = true ∧ Aj l = some ob) ∧
      Sim s' ({ fs with H := ext fs.H A.A }.put d v) ∧ ({ fs with H := ext fs.H A.A }.put d v).ix = ix ∧ d < c.N := by
  unfold xHead at h
  split at h
  · rename_i us v hdo
    cases hf : freshU s.hp us with
    | false => rw [hf] at h; cases h
    | true =>
      rw [hf] at h
      simp only [cond_true] at h
      split at h
      case h_2 => cases h
      rename_i hp' hu
      split at h
      case h_2 => cases h
      rename_i s1 hp
      simp only [Option.some.injEq, Prod.mk.injEq] at h
      obtain ⟨rfl, rfl⟩ := h
      obtain ⟨g1, g2⟩ := xDo_val hdo
      obtain ⟨u1, u2⟩ := xUps_ok us _ _ hu
      obtain ⟨p1, p2, p3⟩ := xPut_put hd hp (hs.hp (hp' := hp') (n' := s.n)) hN
      have hext : toH hp' = ext fs.H (upds noH us) := by rw [u1, hs.2]; exact upds_noH _ _
      rw [hext] at p2 p3
      refine ⟨haU_ok (xUps_keys us _ _ hu), v, needH (toH h0) o 0 As, ?_, fun l hl => ?_, fun l ob hl => ?_, p2, p3.trans hix, p1⟩
      · refine calm_wv (s := { fs with H := needH (toH h0) o 0 As }) (us := us) (v := v) hg ?_ hd p1 ?_
        · show calleeR (FM.rv fs) o = none
          rw [hs.rv]; exact g1
        · rw [hd, Option.getD_some] at g2
          show wv P _ (c.nm d fs.ix) (FM.rv fs) o = _
          rw [hnm, hix, hs.rv]; exact g2
      · obtain ⟨ob, hob⟩ := Option.ne_none_iff_exists'.1 hl
        rcases upds_some us noH l ob hob with ⟨u, h1, rfl, _⟩ | h1
        · rw [hs.2]; exact freshU_ok hf u h1
        · cases h1
      · rcases needH_sub (toH h0) As 0 l ob hl with g | ⟨i, Aj, q1, q2, q3⟩
        · exact .inl g
        · exact .inr ⟨i, Aj.A, by rw [List.getElem?_map, q1]; rfl, by simpa using q2, q3⟩
  · rename_i f args hdo
    simp only at h
    generalize hhn : needT o 0 As h0 = hn at h
    cases hcond : (fnOk P f && ((nBs (fun l => (toH hn l).isSome) args && needOk o (fun l => (toH hn l).isSome) 0 As) && ((hn.under hpD s.n && s.hp.under hpD s.n) && Nat.ble lo s.n))) with
    | false => rw [hcond] at h; cases h
    | true =>
      rw [hcond] at h
      simp only [cond_true] at h
      split at h
      case h_2 => cases h
      rename_i r hp' n' hcall
      split at h
      case h_2 => cases h
      rename_i s1 hp
      simp only [Option.some.injEq, Prod.mk.injEq] at h
      obtain ⟨rfl, rfl⟩ := h
      simp only [Bool.and_eq_true] at hcond
      obtain ⟨hfn, ⟨hnb, hno⟩, ⟨hu1, hu2⟩, _⟩ := hcond
      obtain ⟨q1, q2⟩ := hc _ _ _ _ _ _ _ _ hcall
      obtain ⟨p1, p2, p3⟩ := xPut_put hd hp (hs.hp (hp' := s.hp.join hpD hp' s.n) (n' := n')) hN
      have hext : toH (s.hp.join hpD hp' s.n) = ext fs.H (fromK s.n hp') := by rw [join_toH hu2, hs.2]
      rw [hext] at p2 p3
      have hsub : ∀ l ob, toH hn l = some ob → toH h0 l = some ob ∨ ∃ i Aj, As[i]? = some Aj ∧ waitsB o (0 + i) = true ∧ Aj.A l = some ob := fun l ob hl => needT_sub As 0 h0 l ob hAs (by rw [hhn]; exact hl)
      have hcn : Closed (toH hn) := fun l ob hl => by
        rcases hsub l ob hl with g | ⟨i, Aj, g1, g2, g3⟩
        · refine onB_mono (fun k hk => ?_) ob (hcl l ob g)
          have : toH h0 k ≠ none := by simpa [isS, Option.isSome_iff_ne_none] using hk
          have := needT_up (o := o) As 0 h0 k hAs this
          rw [hhn] at this
          simpa [isS, Option.isSome_iff_ne_none] using this
        · exact needOk_names As 0 hAs hno i Aj g1 g2 l ob g3
      have hnew : toH hp' = ext (toH hn) (fromK s.n hp') := by
        funext l
        rcases loc_cases l with ⟨k, rfl⟩ | hl
        · unfold ext
          rw [fromK_eq]
          by_cases hk : s.n ≤ k
          · rw [if_pos hk, under_none hu1 hk]
            cases toH hp' [k] <;> rfl
          · rw [if_neg hk, q2 k (by omega)]
        · unfold ext
          rw [fromK_other _ _ l hl, toH_other _ l hl, toH_other _ l hl]
      refine ⟨haC_ok _ _, r, toH hn, ?_, fun l hl => ?_, fun l ob hl => ?_, p2, p3.trans hix, p1⟩
      · refine calm_call (s := { fs with H := toH hn }) (f := f) (args := args) (v := r) hg ?_ hfn hd p1 ?_
        · show calleeR (FM.rv fs) o = some (f, args)
          rw [hs.rv]; exact xDo_call hdo
        · intro H2 hH2 hf2
          rw [hnew] at q1
          exact q1.frame hcn hnb hH2 hf2
      · have hl : fromK s.n hp' l ≠ none := hl
        rcases loc_cases l with ⟨k, rfl⟩ | hl'
        · rw [fromK_eq] at hl
          by_cases hk : s.n ≤ k
          · rw [hs.2]; exact under_none hu2 hk
          · rw [if_neg hk] at hl; exact absurd rfl hl
        · rw [fromK_other _ _ l hl'] at hl; exact absurd rfl hl
      · rcases hsub l ob hl with g | ⟨i, Aj, g1, g2, g3⟩
        · exact .inl g
        · exact .inr ⟨i, Aj.A, by rw [List.getElem?_map, g1]; rfl, by simpa using g2, g3⟩
  · cases h

theorem xHead_lo {G : List (Nat × List Value)} (hc : CallOk P G call) (h : xHead P call N lo ix h0 As o s = some (s', A)) : ∀ k, k < lo → toH s'.hp [k] = toH s.hp [k] := by
  unfold xHead at h
  split at h
  · rename_i us v hdo
    cases hf : freshU s.hp us with
    | false => rw [hf] at h; cases h
    | true =>
      rw [hf] at h
      simp only [cond_true] at h
      split at h
      case h_2 => cases h
      rename_i hp' hu
      split at h
      case h_2 => cases h
      rename_i s1 hp
      simp only [Option.some.injEq, Prod.mk.injEq] at h
      obtain ⟨rfl, rfl⟩ := h
      intro k hk
      rw [(xPut_hp hp).1]
      exact (xUps_ok _ _ _ hu).2 k hk
  · rename_i f args hdo
    simp only at h
    generalize hhn : needT o 0 As h0 = hn at h
    cases hcond : (fnOk P f && ((nBs (fun l => (toH hn l).isSome) args && needOk o (fun l => (toH hn l).isSome) 0 As) && ((hn.under hpD s.n && s.hp.under hpD s.n) && Nat.ble lo s.n))) with
    | false => rw [hcond] at h; cases h
    | true =>
      rw [hcond] at h
      simp only [cond_true] at h
      split at h
      case h_2 => cases h
      rename_i r hp' n' hcall
      split at h
      case h_2 => cases h
      rename_i s1 hp
      simp only [Option.some.injEq, Prod.mk.injEq] at h
      obtain ⟨rfl, rfl⟩ := h
      simp only [Bool.and_eq_true] at hcond
      obtain ⟨hfn, ⟨hnb, hno⟩, ⟨hu1, hu2⟩, hlo⟩ := hcond
      have hlo := Nat.le_of_ble_eq_true hlo
      intro k hk
      rw [(xPut_hp hp).1]
      show toH (s.hp.join hpD hp' s.n) [k] = _
      rw [join_toH hu2]
      unfold ext
      rw [fromK_eq, if_neg (by omega)]
  · cases h
theorem xHeads_lo {G : List (Nat × List Value)} (hc : CallOk P G call) : ∀ (l : List Oper) (k : Nat) (s s' : XS) (As : List HA), xHeads P call N lo ix ops n h0 k l s As = some s' → ∀ k, k < lo → toH s'.hp [k] = toH s.hp [k]
  | [], k, s, s', As, h => by obtain rfl := Option.some.inj h; exact fun _ _ => rfl
  | o :: rest, k, s, s', As, h => by
    unfold xHeads at h
    cases h1 : Nat.ble (k + 1) n with
    | false => rw [h1] at h; exact xOps_lo hc _ s s' h
    | true =>
      rw [h1] at h
      simp only [cond_true] at h
      cases h2 : (depsB ops n k o && o.dst.isSome) with
      | false => rw [h2] at h; cases h
      | true =>
        rw [h2] at h
        simp only [cond_true] at h
        split at h
        · split at h
          case h_2 => cases h
          rename_i s1 A hh
          intro j hj
          rw [xHeads_lo hc rest (k + 1) s1 s' _ h j hj, xHead_lo hc hh j hj]
        · split at h
          case h_2 => cases h
          rename_i s1 hh
          intro j hj
          rw [xHeads_lo hc rest (k + 1) s1 s' _ h j hj, (xPut_hp hh).1]
        · cases h
theorem xHeads_ok (hc : CallOk P c.G call) (hN : c.N = N) (hnm : c.nm = nmX) (hcl : Closed (toH h0)) {K : FS → Prop} : ∀ (l : List Oper) (k : Nat) (s s' : XS) (fs : FS) (As : List HA), xHeads P call N lo ix ops n h0 k l s As = some s' → Sim s fs → fs.ix = ix → (∀ A ∈ As, HAOk A) →
    (∀ fs', Sim s' fs' → K fs') → awH P c ops n K (toH h0) k l fs (As.map HA.A)
  | [], k, s, s', fs, As, h, hs, hix, hAs, hK => by
    obtain rfl := Option.some.inj h
    exact hK fs hs
  | o :: rest, k, s, s', fs, As, h, hs, hix, hAs, hK => by
    unfold xHeads at h
    rw [T.ble_lt] at h
    by_cases h1 : k < n
    · simp only [h1, decide_true, cond_true] at h
      simp only [awH, h1, if_true]
      cases h2 : (depsB ops n k o && o.dst.isSome) with
      | false => rw [h2] at h; cases h
      | true =>
        rw [h2] at h
        simp only [cond_true] at h
        rw [Bool.and_eq_true] at h2
        obtain ⟨d, hd⟩ := Option.isSome_iff_exists.1 h2.2
        have hg : guardV ops o fs = guardR ops o s.get := by rw [guard_R, show fs.get = s.get from funext hs.1]
        split at h
        · rename_i hgt
          split at h
          case h_2 => cases h
          rename_i s1 A hh
          obtain ⟨hA, v, Hn, q1, q2, q3, q4, q5, q6⟩ := xHead_ok hc hN hnm hcl hd (hg.trans hgt) hAs hh hs hix
          refine ⟨d, v, A.A, Hn, q1, h2.1, q2, q3, ?_⟩
          have ih := xHeads_ok hc hN hnm hcl rest (k + 1) s1 s' _ (As ++ [A]) h q4 q5 (fun B hB => by
            rcases List.mem_append.1 hB with hB | hB
            · exact hAs B hB
            · rw [List.mem_singleton] at hB; rw [hB]; exact hA) hK
          rw [List.map_append] at ih
          exact ih
        · rename_i hgt
          split at h
          case h_2 => cases h
          rename_i s1 hh
          obtain ⟨p1, p2, p3⟩ := xPut_put hd hh hs hN
          refine ⟨d, .tup [], noH, noH, calm_nop (s := { fs with H := noH }) (hg.trans hgt) hd p1, h2.1, fun _ h => absurd rfl h, fun _ _ h => (by cases h), ?_⟩
          have ih := xHeads_ok hc hN hnm hcl rest (k + 1) s1 s' _ (As ++ [haU []]) h p2 (p3.trans hix) (fun B hB => by
            rcases List.mem_append.1 hB with hB | hB
            · exact hAs B hB
            · rw [List.mem_singleton] at hB; rw [hB]; exact haU_ok (by simp)) hK
          rw [List.map_append] at ih
          rw [ext_noH]
          exact ih
        · cases h
    · simp only [h1, decide_false, cond_false] at h
      simp only [awH, h1, if_false]
      exact xOps_ok hc hN hnm _ s s' fs h hs hix hK
theorem headN_ok : ∀ (f m n : Nat), headN ops f m = some n → drawB ops n = true
  | 0, _, _, h => by cases h
  | f + 1, m, n, h => by
    unfold headN at h
    split at h
    · obtain rfl := Option.some.inj h; assumption
    · exact headN_ok f (m + 1) n h
theorem xDraw_ok (hc : CallOk P c.G call) (hN : c.N = N) (hnm : c.nm = nmX) (hcl : Closed (toH s.hp)) (hm : P.follows .mixedOrders = true) {K : FS → Prop} (h : xDraw P call N lo ix ops s = some s') (hs : Sim s fs) (hix : fs.ix = ix) (hK : ∀ fs', Sim s' fs' → K fs') : awDraw P c ops K fs := by
  unfold xDraw at h
  split at h
  case h_2 => cases h
  rename_i n hn
  refine ⟨hm, n, headN_ok _ _ _ hn, ?_⟩
  rw [hs.2]
  exact xHeads_ok hc hN hnm hcl _ 0 s s' fs [] h hs hix (by simp) hK
theorem xDraw_lo {G : List (Nat × List Value)} (hc : CallOk P G call) (h : xDraw P call N lo ix ops s = some s') : ∀ k, k < lo → toH s'.hp [k] = toH s.hp [k] := by
  unfold xDraw at h
  split at h
  case h_2 => cases h
  exact xHeads_lo hc _ 0 s s' [] h

/-! ### code -/
def XRel (X : Ctx) (c : Cfg) (s : XS) (a : Act) (w : World) : Prop := ∃ fs, Sim s fs ∧ Rel X c fs a w
theorem XRel.enter {X : Ctx} {a : Act} {w : World} (h : XRel X c s a w) (ops : Array Oper) : ∃ fs, Sim (s.enter ops) fs ∧ fs.ix = s.n :: allocD ops ∧ Rel X c fs a w := by
  obtain ⟨fs, h1, h2⟩ := h
  exact ⟨{ fs with ix := s.n :: allocD ops }, ⟨h1.1, h1.2⟩, rfl, ix_wk fs _ X c a w h2⟩
theorem XRel.closed {X : Ctx} {a : Act} {w : World} (h : XRel X c s a w) : Closed (toH s.hp) := by
  obtain ⟨fs, h1, _, F, m, _, _, hR⟩ := h
  rw [← h1.2]
  exact hR.heap.closed
theorem condR_ok {X : Ctx} {a : Act} {w : World} {x : Operand} {b : Bool} (h : XRel X c s a w) (hx : condR s x = some b) : a.eval x = .bool b := by
  obtain ⟨fs, h1, h2⟩ := h
  refine cond_ok h2 ?_
  unfold condR at hx
  unfold condV
  split at hx
  · rename_i t; show (match fs.get t with | .bool b => some b | _ => none) = _; rw [h1.1]; exact hx
  · exact hx
  · cases hx
theorem xCode_ok (hc : CallOk P c.G call) (hN : c.N = N) (hnm : c.nm = nmX) {X : Ctx} : ∀ (code : Code) (s s' : XS) (e : Exit), xCode P call N LF lo code s = some (e, s') → ∀ (Q' : Exit → Act → World → Prop) (a : Act) (w : World), XRel X c s a w → (∀ a' w', XRel X c s' a' w' → Q' e a' w') → code.wp P Q' a w
  | .skip, s, s', e, h, Q', a, w, hr, hQ => by
    simp only [xCode, Option.some.injEq, Prod.mk.injEq] at h
    obtain ⟨rfl, rfl⟩ := h
    exact wp_skip (hQ a w hr)
  | .label _, s, s', e, h, Q', a, w, hr, hQ => by
    simp only [xCode, Option.some.injEq, Prod.mk.injEq] at h
    obtain ⟨rfl, rfl⟩ := h
    exact wp_label (hQ a w hr)
  | .region id ops false, s, s', e, h, Q', a, w, hr, hQ => by
    simp only [xCode] at h
    split at h
    case h_2 => cases h
    rename_i s1 h1
    simp only [Option.some.injEq, Prod.mk.injEq] at h
    obtain ⟨rfl, rfl⟩ := h
    obtain ⟨fs, g1, g2, g3⟩ := hr.enter ops
    exact wp_region_list (wOps_ok (K := fun fs' => Sim s1 fs') (fun fs' a' w' h' hq => hQ a' w' ⟨fs', hq, h'⟩) ops.toList fs a w g3 (xOps_ok hc hN hnm _ _ _ fs h1 g1 g2 fun _ h => h))
  | .region id ops true, s, s', e, h, Q', a, w, hr, hQ => by
    simp only [xCode] at h
    split at h
    case isFalse => cases h
    rename_i hm
    split at h
    case h_2 => cases h
    rename_i s1 h1
    simp only [Option.some.injEq, Prod.mk.injEq] at h
    obtain ⟨rfl, rfl⟩ := h
    obtain ⟨fs, g1, g2, g3⟩ := hr.enter ops
    exact awDraw_ok (K := fun fs' => Sim s1 fs') (fun fs' a' w' h' hq => hQ a' w' ⟨fs', hq, h'⟩) g3 (xDraw_ok (s := s.enter ops) hc hN hnm hr.closed hm h1 g1 g2 fun _ h => h)
  | .seq x y, s, s', e, h, Q', a, w, hr, hQ => by
    simp only [xCode] at h
    refine wp_seq ?_
    split at h
    · rename_i s1 h1
      exact xCode_ok hc hN hnm x s s1 .normal h1 _ a w hr fun a' w' hr' => xCode_ok hc hN hnm y s1 s' e h Q' a' w' hr' hQ
    · rename_i hne
      refine xCode_ok hc hN hnm x s s' e h _ a w hr fun a' w' hr' => ?_
      cases e with
      | normal => exact absurd h (hne s')
      | _ => exact hQ a' w' hr'
  | .cond x t e', s, s', e, h, Q', a, w, hr, hQ => by
    simp only [xCode] at h
    split at h
    · rename_i hx; exact wp_cond_true (condR_ok hr hx) (xCode_ok hc hN hnm t s s' e h Q' a w hr hQ)
    · rename_i hx; exact wp_cond_false (condR_ok hr hx) (xCode_ok hc hN hnm e' s s' e h Q' a w hr hQ)
    · cases h
  | .block id b, s, s', e, h, Q', a, w, hr, hQ => by
    simp only [xCode] at h
    refine wp_block ?_
    split at h
    · rename_i i s1 h1
      refine xCode_ok hc hN hnm b s s1 (.exit i) h1 _ a w hr fun a' w' hr' => ?_
      simp only [Exit.inBlock]
      split at h
      · rename_i e1
        simp only [Option.some.injEq, Prod.mk.injEq] at h
        obtain ⟨rfl, rfl⟩ := h
        rw [if_pos e1]; exact hQ a' w' hr'
      · rename_i e1
        simp only [Option.some.injEq, Prod.mk.injEq] at h
        obtain ⟨rfl, rfl⟩ := h
        rw [if_neg e1]; exact hQ a' w' hr'
    · rename_i hne
      refine xCode_ok hc hN hnm b s s' e h _ a w hr fun a' w' hr' => ?_
      cases e with
      | exit i => exact absurd h (hne i s')
      | _ => exact hQ a' w' hr'
  | .loop b, s, s', e, h, Q', a, w, hr, hQ => by
    simp only [xCode] at h
    refine wp_loop_rounds LF ?_
    have key : ∀ (k : Nat) (s : XS) (a : Act) (w : World), xIter (xCode P call N LF lo b) k s = some (e, s') → XRel X c s a w → Code.rounds P b Q' k a w := by
      intro k
      induction k with
      | zero => intro s a w h; cases h
      | succ k ih =>
        intro s a w h hr
        rw [rounds_succ]
        unfold xIter at h
        split at h
        · rename_i s1 h1
          exact xCode_ok hc hN hnm b s s1 .normal h1 _ a w hr fun a' w' hr' => ih s1 a' w' h hr'
        · rename_i hne
          refine xCode_ok hc hN hnm b s s' e h _ a w hr fun a' w' hr' => ?_
          cases e with
          | normal => exact absurd h (hne s')
          | _ => exact hQ a' w' hr'
    exact key LF s a w h hr
  | .exit id, s, s', e, h, Q', a, w, hr, hQ => by
    simp only [xCode, Option.some.injEq, Prod.mk.injEq] at h
    obtain ⟨rfl, rfl⟩ := h
    exact wp_exit (hQ a w hr)
  | .ret, s, s', e, h, Q', a, w, hr, hQ => by
    simp only [xCode, Option.some.injEq, Prod.mk.injEq] at h
    obtain ⟨rfl, rfl⟩ := h
    exact wp_ret (hQ a w hr)
  | .rangeFunc .., s, s', e, h, _, _, _, _, _ => by cases h
  | .scope _, s, s', e, h, _, _, _, _, _ => by cases h
  | .goto _, s, s', e, h, _, _, _, _, _ => by cases h
  | .refuse _, s, s', e, h, _, _, _, _, _ => by cases h
theorem xCode_lo {G : List (Nat × List Value)} (hc : CallOk P G call) : ∀ (code : Code) (s s' : XS) (e : Exit), xCode P call N LF lo code s = some (e, s') → ∀ k, k < lo → toH s'.hp [k] = toH s.hp [k]
  | .skip, s, s', e, h => by
    simp only [xCode, Option.some.injEq, Prod.mk.injEq] at h
    obtain ⟨rfl, rfl⟩ := h
    exact fun _ _ => rfl
  | .label _, s, s', e, h => by
    simp only [xCode, Option.some.injEq, Prod.mk.injEq] at h
    obtain ⟨rfl, rfl⟩ := h
    exact fun _ _ => rfl
  | .region id ops false, s, s', e, h => by
    simp only [xCode] at h
    split at h
    case h_2 => cases h
    rename_i s1 h1
    simp only [Option.some.injEq, Prod.mk.injEq] at h
    obtain ⟨rfl, rfl⟩ := h
    have := xOps_lo hc ops.toList (s.enter ops) s1 h1
    exact this
  | .region id ops true, s, s', e, h => by
    simp only [xCode] at h
    split at h
    case isFalse => cases h
    split at h
    case h_2 => cases h
    rename_i s1 h1
    simp only [Option.some.injEq, Prod.mk.injEq] at h
    obtain ⟨rfl, rfl⟩ := h
    have := xDraw_lo (s := s.enter ops) hc h1
    exact this
  | .seq x y, s, s', e, h => by
    simp only [xCode] at h
    split at h
    · rename_i s1 h1
      intro k hk
      rw [xCode_lo hc y s1 s' e h k hk, xCode_lo hc x s s1 .normal h1 k hk]
    · exact xCode_lo hc x s s' e h
  | .cond x t e', s, s', e, h => by
    simp only [xCode] at h
    split at h
    · exact xCode_lo hc t s s' e h
    · exact xCode_lo hc e' s s' e h
    · cases h
  | .block id b, s, s', e, h => by
    simp only [xCode] at h
    split at h
    · rename_i i s1 h1
      have := xCode_lo hc b s s1 (.exit i) h1
      split at h
      · simp only [Option.some.injEq, Prod.mk.injEq] at h
        obtain ⟨rfl, rfl⟩ := h
        exact this
      · simp only [Option.some.injEq, Prod.mk.injEq] at h
        obtain ⟨rfl, rfl⟩ := h
        exact this
    · exact xCode_lo hc b s s' e h
  | .loop b, s, s', e, h => by
    simp only [xCode] at h
    have key : ∀ (k : Nat) (s : XS), xIter (xCode P call N LF lo b) k s = some (e, s') → ∀ k, k < lo → toH s'.hp [k] = toH s.hp [k] := by
      intro k
      induction k with
      | zero => intro s h; cases h
      | succ k ih =>
        intro s h
        unfold xIter at h
        split at h
        · rename_i s1 h1
          intro j hj
          rw [ih s1 h j hj, xCode_lo hc b s s1 .normal h1 j hj]
        · exact xCode_lo hc b s s' e h
    exact key LF s h
  | .exit id, s, s', e, h => by
    simp only [xCode, Option.some.injEq, Prod.mk.injEq] at h
    obtain ⟨rfl, rfl⟩ := h
    exact fun _ _ => rfl
  | .ret, s, s', e, h => by
    simp only [xCode, Option.some.injEq, Prod.mk.injEq] at h
    obtain ⟨rfl, rfl⟩ := h
    exact fun _ _ => rfl
  | .rangeFunc .., s, s', e, h => by cases h
  | .scope _, s, s', e, h => by cases h
  | .goto _, s, s', e, h => by cases h
  | .refuse _, s, s', e, h => by cases h

/-! ### calls -/
theorem xRes_ok {fs : FS} (hs : Sim s fs) : ∀ (l : List ResultVar) (r : List FV), xRes P s l = some r → resL P fs l = some r
  | [], r, h => h
  | .tmp t :: l, r, h => by
    unfold xRes at h
    split at h
    case h_2 => cases h
    rename_i r' hr
    obtain rfl := Option.some.inj h
    simp [resL, resV, xRes_ok hs l _ hr, hs.1 t]
  | .cell t ty :: l, r, h => by
    unfold xRes at h
    split at h
    case h_2 => cases h
    rename_i v r' hv hr
    obtain rfl := Option.some.inj h
    simp [resL, resV, xRes_ok hs l _ hr, hs.1 t, hs.2, hv]
theorem initS_get (d : Nat) : ∀ (A : List FV) (k : Nat) (t : T FV) (j : Nat), k + A.length ≤ 2 ^ d → j < 2 ^ d → ((initS d A k t).get d j) = if k ≤ j ∧ j < k + A.length then A[j - k]? else t.get d j
  | [], k, t, j, hA, hj => by
    have : ¬ (k ≤ j ∧ j < k + ([] : List FV).length) := by simp
    rw [if_neg this]
    rfl
  | x :: A, k, t, j, hA, hj => by
    simp only [List.length_cons] at hA
    show (initS d A (k + 1) (t.setF x d k)).get d j = _
    rw [initS_get d A (k + 1) _ j (by omega) hj, T.setF_eq, T.get_set d t k j x (by omega) hj]
    by_cases h1 : j = k
    · subst h1
      have h2 : ¬ (j + 1 ≤ j ∧ j < j + 1 + A.length) := by omega
      rw [if_neg h2]
      simp
    · by_cases h2 : k + 1 ≤ j ∧ j < k + 1 + A.length
      · have h3 : k ≤ j ∧ j < k + (x :: A).length := by simp only [List.length_cons]; omega
        rw [if_pos h2, if_pos h3, show j - k = (j - (k + 1)) + 1 by omega, List.getElem?_cons_succ]
      · have h3 : ¬ (k ≤ j ∧ j < k + (x :: A).length) := by simp only [List.length_cons]; omega
        rw [if_neg h2, if_neg h3, if_neg h1]
theorem init_sim {d nv : Nat} {A : List FV} {hp : Hp} {n : Nat} (h1 : A.length ≤ nv) (h2 : nv ≤ 2 ^ d) : Sim ⟨d, initS d A 0 .nil, hp, n⟩ (FS.init nv A (toH hp)) := by
  refine ⟨fun t => ?_, rfl⟩
  rw [init_get, XS.get_eq]
  show _ = if t < 2 ^ d then ((initS d A 0 .nil).get d t).getD .undef else .undef
  by_cases ht : t < 2 ^ d
  · rw [if_pos ht, initS_get d A 0 .nil t (by omega) ht, T.get_nil]
    by_cases h : t < A.length
    · simp [h, List.getD_eq_getElem?_getD]
    · simp [h, List.getD_eq_getElem?_getD]
  · rw [if_neg ht, List.getD_eq_getElem?_getD, List.getElem?_eq_none (by omega)]
    rfl
def OrcOk (P : Program) (G : List (Nat × List Value)) (orc : Orc) : Prop := ∀ f A hp n r hp' n', orc f A hp n = some (r, hp', n') → FC P G f A (toH hp) r (toH hp') ∧ ∀ k, k < n → toH hp' [k] = toH hp [k]
theorem xCall_ok {G : List (Nat × List Value)} {orc : Orc} (ho : OrcOk P G orc) (LF : Nat) : ∀ k, CallOk P G (xCall P orc LF k)
  | 0 => fun lo f A hp n r hp' n' h => by cases h
  | k + 1 => fun lo f A hp n r hp' n' h => by
    have ih := xCall_ok ho LF k
    unfold xCall at h
    split at h
    · rename_i r1 hp1 n1 ho1
      rw [show Nat.ble lo n = decide (lo ≤ n) from by
        cases h1 : Nat.ble lo n
        · have : ¬ lo ≤ n := fun h' => by rw [Nat.ble_eq_true_of_le h'] at h1; cases h1
          simp [this]
        · simp [Nat.le_of_ble_eq_true h1]] at h
      by_cases hl : lo ≤ n
      · simp only [hl, decide_true, cond_true, Option.some.injEq, Prod.mk.injEq] at h
        obtain ⟨rfl, rfl, rfl⟩ := h
        obtain ⟨g1, g2⟩ := ho _ _ _ _ _ _ _ ho1
        exact ⟨g1, fun j hj => g2 j (by omega)⟩
      · simp [hl] at h
    · split at h
      case h_2 => cases h
      rename_i fn hfn
      split at h
      case h_2 => cases h
      rename_i code hcode
      cases h1 : Nat.ble A.length fn.ntmps with
      | false => rw [h1] at h; cases h
      | true =>
        rw [h1] at h
        have h1 := Nat.le_of_ble_eq_true h1
        simp only [cond_true] at h
        cases h2 : Nat.ble fn.ntmps (2 ^ dOf fn.ntmps) with
        | false => rw [h2] at h; cases h
        | true =>
          rw [h2] at h
          have h2 := Nat.le_of_ble_eq_true h2
          simp only [cond_true] at h
          have key : ∀ (e : Exit) (s1 : XS) (l : List FV), (e = .normal ∨ e = .ret) → xCode P (xCall P orc LF k) fn.ntmps LF lo code ⟨dOf fn.ntmps, initS (dOf fn.ntmps) A 0 .nil, hp, n⟩ = some (e, s1) → xRes P s1 fn.results.toList = some l → r = tupOf l → hp' = s1.hp →
              FC P G f A (toH hp) r (toH hp') ∧ ∀ j, j < lo → toH hp' [j] = toH hp [j] := by
            rintro e s1 l he hx hres rfl rfl
            refine ⟨?_, xCode_lo ih code _ s1 e hx⟩
            intro w F m vs hF hG hv hH
            let c : Cfg := ⟨fn.ntmps, [], nmX, G, fun _ => True⟩
            refine (fn_run_wp (c := c) (nv := A.length) (R := fun s2 l2 => s2.H = toH s1.hp ∧ tupOf l2 = tupOf l) hfn hcode rfl (Nat.le_refl _) h1 (fun X Q' hQ a w hr => ?_) (fun _ _ => trivial) w F m vs hF hG hv hH).mono ?_
            · refine xCode_ok (c := c) ih rfl rfl code _ s1 e hx Q' a w ⟨_, init_sim (Nat.le_refl _) (by omega), hr⟩ fun a' w' ⟨fs', g1, g2⟩ => ?_
              exact hQ e fs' a' w' g2 ⟨he, fs', Wk.refl _, l, xRes_ok g1 _ _ hres, g1.2, rfl⟩
            · rintro e w' ⟨v, s2, l2, F', m', a, rfl, ⟨q1, q2⟩, k1, k2, hR, hv2⟩
              rw [q2] at hv2
              rw [← q1]
              refine ⟨v, F', m', rfl, k1, fun y hy => ⟨k2 y hy, hR.frz y hy⟩, fun l hl => ⟨hR.mfix l hl, hR.ext l hl⟩, hv2, hR.heap, fun l hl => ?_, hR.size, fun y hy hn => hR.keep y hy fun ⟨l, h1, h2⟩ => hn l h1 h2, hR.os, hR.tape, hR.output⟩
              rcases hR.own l hl with ⟨k, h1, h2⟩ | h1
              · exact .inl ⟨k, h1, h2⟩
              · exact .inr h1
          split at h
          · rename_i s1 hx
            split at h
            case h_2 => cases h
            rename_i l hl
            simp only [Option.some.injEq, Prod.mk.injEq] at h
            exact key .normal s1 l (.inl rfl) hx hl h.1.symm h.2.1.symm
          · rename_i s1 hx
            split at h
            case h_2 => cases h
            rename_i l hl
            simp only [Option.some.injEq, Prod.mk.injEq] at h
            exact key .ret s1 l (.inr rfl) hx hl h.1.symm h.2.1.symm
          · cases h
end
end Go.FM
