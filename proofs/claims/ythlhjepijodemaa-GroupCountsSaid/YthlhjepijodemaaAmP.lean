/- One of the texts of a proof by an abstract machine over the model. -/
import Derived.Test.YthlhjepijodemaaAmO4
set_option linter.unusedSimpArgs false
set_option linter.unusedVariables false
namespace Go.AM
open Go

/-! ### code -/
def lastDst (ops : Array Oper) : Option Nat := (ops.back?).bind (·.dst)
/-- behind a region: the temporaries are forgotten, but for the last one, where it is a plain truth value, and for those to be kept, where they may be copied -/
def keepT (tm : Asg) (n : Nat) : List Nat → Asg
  | [] => []
  | t :: r => if t < n then keepT tm n r else if (lk tm t).pure then (t, lk tm t) :: keepT tm n r else keepT tm n r
def St.clean (s : St) (k : Option Nat) (keep : List Nat) : St :=
  { vars := s.vars, D := [], tm := match k with
    | some d => if d < s.vars.length then keepT s.tm s.vars.length keep else match lk s.tm d with
      | .bool b => (d, .bool b) :: keepT s.tm s.vars.length keep
      | _ => keepT s.tm s.vars.length keep
    | none => keepT s.tm s.vars.length keep }
theorem keepT_lk (tm : Asg) (n : Nat) : ∀ (keep : List Nat) (t : Nat), (lk (keepT tm n keep) t).isH = false ∧ (lk (keepT tm n keep) t = .undef ∨ lk (keepT tm n keep) t = lk tm t)
  | [], t => ⟨rfl, .inl rfl⟩
  | d :: r, t => by
    unfold keepT
    split
    · exact keepT_lk tm n r t
    · split
      · rename_i hp
        simp only [lk]
        split
        · rename_i e; subst e
          refine ⟨?_, .inr rfl⟩
          generalize lk tm d = v at hp
          cases v <;> first | rfl | (simp [AV.pure, AV.pureC] at hp; done)
        · exact keepT_lk tm n r t
      · exact keepT_lk tm n r t

/-- less is known -/
def St.le (s1 s : St) : Prop := s1.vars.length = s.vars.length ∧ (∀ t, (s1.get t).isH = false ∧ (s1.get t = .undef ∨ s1.get t = s.get t)) ∧ s1.D = []

theorem Rel.weaken {X : Ctx} {c : Cfg} {s s1 : St} {a : Act} {w : World} (h : Rel X c s a w) (hl : s1.le s) : Rel X c s1 a w := by
  obtain ⟨hN, hp, F, bs, fr, h1, h2, h⟩ := h
  classical
  let bs1 : Nat → List Nat := fun t => if s1.get t = .undef then [] else bs t
  have hsub : ∀ t b, b ∈ bs1 t → b ∈ bs t := fun t b hb => by
    by_cases e : s1.get t = .undef
    · simp [bs1, e] at hb
    · simpa [bs1, e] using hb
  refine ⟨hN, hp, F, bs1, fr, h1, h2, { h with
    vsz := by rw [hl.1]; exact h.vsz
    val := fun t => ?_
    nd := fun t => ?_
    dj := fun t t' b hb hb' => h.dj t t' b (hsub t b hb) (hsub t' b hb')
    own := fun t b hb => h.own t b (hsub t b hb)
    fdj := fun t b hb => h.fdj t b (hsub t b hb) }⟩
  · by_cases e : s1.get t = .undef
    · simp only [bs1, e, if_true]; exact RV.undef _
    · simp only [bs1, e, if_false]
      obtain ⟨hH, h3⟩ := hl.2.1 t
      have e2 := h3.resolve_left e
      exact SV.of ((by have := h.val t; rw [← e2] at this; exact this : SV F s a w (s1.get t) _ (bs t)).nonh hH)
  · by_cases e : s1.get t = .undef
    · simp [bs1, e]
    · simp only [bs1, e, if_false]; exact h.nd t

def noHL (l : List AV) : Bool := l.all fun x => !x.isH
theorem clean_le (s : St) (k : Option Nat) (keep : List Nat) (hv : noHL s.vars = true) : (s.clean k keep).le s := by
  refine ⟨rfl, fun t => ?_, rfl⟩
  simp only [St.get, St.clean]
  by_cases ht : t < s.vars.length
  · simp only [ht, if_true]
    refine ⟨?_, .inr trivial⟩
    simp only [noHL, List.all_eq_true] at hv
    have := hv s.vars[t] (List.getElem_mem ht)
    rw [List.getD_eq_getElem?_getD, List.getElem?_eq_getElem ht]
    simpa using this
  · simp only [ht, if_false]
    cases k with
    | none => exact keepT_lk _ _ _ _
    | some d =>
      simp only
      split
      · exact keepT_lk _ _ _ _
      · split
        · rename_i b hb
          simp only [lk]
          split
          · rename_i e; subst e; rw [hb]; exact ⟨rfl, .inr rfl⟩
          · exact keepT_lk _ _ _ _
        · exact keepT_lk _ _ _ _

def condV (s : St) : Operand → Option Bool
  | .tmp t => match s.get t with
    | .bool b => some b
    | _ => none
  | .const (.bool b) => some b
  | _ => none
theorem cond_ok {X : Ctx} {c : Cfg} {s : St} {a : Act} {w : World} {x : Operand} {b : Bool} (h : Rel X c s a w) (hx : condV s x = some b) : a.eval x = .bool b := by
  obtain ⟨_, _, F, bs, fr, _, _, h⟩ := h
  unfold condV at hx
  split at hx
  · rename_i t
    split at hx
    · rename_i b' hb'
      obtain rfl : b' = b := by simpa using hx
      have hv := h.val t
      rw [hb'] at hv
      have hv' : RV w F (.bool b') (a.tmps.getD t undef) (bs t) := hv
      show a.tmps.getD t undef = _
      generalize a.tmps.getD t undef = v at hv'
      generalize bs t = l at hv'
      cases hv'
      rfl
    · cases hx
  · obtain rfl := by simpa using hx
    rfl
  · cases hx

def awCode (P : Program) (c : Cfg) : Code → (Exit → St → Prop) → St → Prop
  | .skip, Q, s => Q .normal s
  | .label _, Q, s => Q .normal s
  | .region _ ops false, Q, s => awOps P c ops ops.toList (fun s' => noHL s'.vars = true ∧ Q .normal (s'.clean (lastDst ops) c.keep)) s
  | .region _ ops true, Q, s => awDraw P c ops (fun s' => noHL s'.vars = true ∧ Q .normal (s'.clean (lastDst ops) c.keep)) s
  | .seq x y, Q, s => awCode P c x (fun e s' => match e with
    | .normal => awCode P c y Q s'
    | e => Q e s') s
  | .cond x t e, Q, s => match condV s x with
    | some true => awCode P c t Q s
    | some false => awCode P c e Q s
    | none => False
  | .block id b, Q, s => awCode P c b (fun e s' => match e with
    | .exit i => if i = id then Q .normal s' else Q (.exit i) s'
    | e => Q e s') s
  | .loop b, Q, s => ∃ (I : Nat → St → Prop), (∃ n s1, s1.le s ∧ I n s1) ∧ ∀ n s, I n s → awCode P c b (fun e s' => match e with
    | .normal => ∃ m s1, m < n ∧ s1.le s' ∧ I m s1
    | e => Q e s') s
  | .exit id, Q, s => Q (.exit id) s
  | .ret, Q, s => Q .ret s
  | _, _, _ => False

theorem awCode_ok {P : Program} {X : Ctx} {c : Cfg} : ∀ (code : Code) (Q : Exit → St → Prop) (Q' : Exit → Act → World → Prop), (∀ e s a w, Rel X c s a w → Q e s → Q' e a w) →
    ∀ (s : St) (a : Act) (w : World), Rel X c s a w → awCode P c code Q s → code.wp P Q' a w
  | .skip, Q, Q', hQ, s, a, w, h, hs => wp_skip (hQ _ s a w h hs)
  | .label _, Q, Q', hQ, s, a, w, h, hs => wp_label (hQ _ s a w h hs)
  | .region id ops false, Q, Q', hQ, s, a, w, h, hs => wp_region_list (awOps_ok (K := fun s' => noHL s'.vars = true ∧ Q .normal (s'.clean (lastDst ops) c.keep)) (fun s' a' w' h' hq => hQ _ _ a' w' (h'.weaken (clean_le s' _ _ hq.1)) hq.2) ops.toList s a w h hs)
  | .region id ops true, Q, Q', hQ, s, a, w, h, hs => awDraw_ok (K := fun s' => noHL s'.vars = true ∧ Q .normal (s'.clean (lastDst ops) c.keep)) (fun s' a' w' h' hq => hQ _ _ a' w' (h'.weaken (clean_le s' _ _ hq.1)) hq.2) h hs
  | .seq x y, Q, Q', hQ, s, a, w, h, hs => wp_seq (awCode_ok x _ _ (fun e s' a' w' h' hq => by
      cases e with
      | normal => exact awCode_ok y Q Q' hQ s' a' w' h' hq
      | _ => exact hQ _ s' a' w' h' hq) s a w h hs)
  | .cond x t e, Q, Q', hQ, s, a, w, h, hs => by
    simp only [awCode] at hs
    split at hs
    · rename_i hc; exact wp_cond_true (cond_ok h hc) (awCode_ok t Q Q' hQ s a w h hs)
    · rename_i hc; exact wp_cond_false (cond_ok h hc) (awCode_ok e Q Q' hQ s a w h hs)
    · exact hs.elim
  | .block id b, Q, Q', hQ, s, a, w, h, hs => wp_block (awCode_ok b _ _ (fun e s' a' w' h' hq => by
      cases e with
      | exit i =>
        simp only [Exit.inBlock]
        simp only at hq
        split
        · rename_i e; rw [if_pos e] at hq; exact hQ _ s' a' w' h' hq
        · rename_i e; rw [if_neg e] at hq; exact hQ _ s' a' w' h' hq
      | _ => exact hQ _ s' a' w' h' hq) s a w h hs)
  | .loop b, Q, Q', hQ, s, a, w, h, hs => by
    obtain ⟨I, ⟨n, s1, hle, hI⟩, hround⟩ := hs
    refine wp_loop_rounds (n + 1) ?_
    have key : ∀ (k n : Nat) (s : St) (a : Act) (w : World), n < k → I n s → Rel X c s a w → Code.rounds P b Q' k a w := by
      intro k
      induction k with
      | zero => intro n s a w hm; omega
      | succ k ih =>
        intro n s a w hm hI h
        rw [rounds_succ]
        exact awCode_ok b _ _ (fun e s' a' w' h' hq => by
          cases e with
          | normal =>
            obtain ⟨m, s2, hm2, hle2, hI2⟩ := hq
            exact ih m s2 a' w' (by omega) hI2 (h'.weaken hle2)
          | _ => exact hQ _ s' a' w' h' hq) s a w h (hround n s hI)
    exact key _ n s1 a w (by omega) hI (h.weaken hle)
  | .exit id, Q, Q', hQ, s, a, w, h, hs => wp_exit (hQ _ s a w h hs)
  | .ret, Q, Q', hQ, s, a, w, h, hs => wp_ret (hQ _ s a w h hs)
  | .rangeFunc .., Q, Q', hQ, s, a, w, h, hs => (hs : False).elim
  | .scope _, Q, Q', hQ, s, a, w, h, hs => (hs : False).elim
  | .goto _, Q, Q', hQ, s, a, w, h, hs => (hs : False).elim
  | .refuse _, Q, Q', hQ, s, a, w, h, hs => (hs : False).elim

/-! ### a function -/
/-- what a result variable holds at the end -/
def resV (P : Program) (s : St) : ResultVar → Option AV
  | .tmp t => (s.get t).seen
  | .cell t ty => match s.get t, ldT P ty with
    | .box cs, some (some n) => if cs.length = n then some (.agg cs) else none
    | .box [x], some none => x.seen
    | _, _ => none
def resL (P : Program) (s : St) : List ResultVar → Option (List AV)
  | [] => some []
  | x :: r => (resV P s x).bind fun v => (resL P s r).map (v :: ·)
/-- the slots of the results are distinct -/
def resSlots : List ResultVar → List Nat
  | [] => []
  | .tmp t :: r => t :: resSlots r
  | .cell t _ :: r => t :: resSlots r

def St.init (nv : Nat) (args : List AV) : St := { vars := args ++ List.replicate (nv - args.length) .undef, tm := [], D := [] }
def tupOf : List AV → AV
  | [x] => x
  | l => .tup l
def retArgs (pins : List Nat) (s : St) (n : Nat) : List AV := (List.range n).map fun i => if pins.contains i then s.get i else .undef

theorem RVs.all {w : World} {F : Nat → Prop} : ∀ {as : List AV} {vs : List Value} {b : List Nat}, RVs w F as vs b → b.Nodup →
    ∃ bs : Nat → List Nat, (∀ t, RV w F (as.getD t .undef) (vs.getD t undef) (bs t)) ∧ (∀ t, (bs t).Nodup) ∧ (∀ t t' y, y ∈ bs t → y ∈ bs t' → t = t') ∧ ∀ t y, y ∈ bs t → y ∈ b
  | [], _, _, .nil, _ => ⟨fun _ => [], fun t => by simpa using RV.undef _, fun _ => List.nodup_nil, fun _ _ _ h => (by cases h), fun _ _ h => (by cases h)⟩
  | a :: as, _, _, .cons _ v b1 _ vs b2 h hs, hn => by
    have hn' := List.nodup_append.1 hn
    obtain ⟨bs, g1, g2, g3, g4⟩ := RVs.all hs hn'.2.1
    refine ⟨fun t => match t with | 0 => b1 | t + 1 => bs t, fun t => ?_, fun t => ?_, fun t t' y hy hy' => ?_, fun t y hy => ?_⟩
    · cases t with
      | zero => simpa using h
      | succ t => simpa using g1 t
    · cases t with
      | zero => exact hn'.1
      | succ t => exact g2 t
    · cases t <;> cases t' <;> simp only at hy hy' ⊢
      · exact absurd rfl (hn'.2.2 y hy y (g4 _ _ hy'))
      · exact absurd rfl (hn'.2.2 y hy' y (g4 _ _ hy))
      · rw [g3 _ _ y hy hy']
    · cases t with
      | zero => simp [show y ∈ b1 from hy]
      | succ t => simp [g4 t y hy]

def resSem (a : Act) : ResultVar → Sem Value
  | .tmp t => pure (a.tmps.getD t undef)
  | .cell x t => do loadVar t (← asAddr (a.tmps.getD x undef))
theorem RVs.single {w : World} {F : Nat → Prop} {x : AV} {vs : List Value} {b : List Nat} (h : RVs w F [x] vs b) : ∃ v, vs = [v] ∧ RV w F x v b := by
  cases h with
  | cons _ v b1 _ vs b2 h1 h2 =>
  cases h2
  exact ⟨v, rfl, by simpa using h1⟩
theorem resL_ok {P : Program} {w0 w : World} {A0 : List Nat} {ps : List (Nat × Value)} {F : Nat → Prop} {bs : Nat → List Nat} {fr : List Nat} {s : St} {a : Act} (h : RelX w0 A0 ps F bs fr s a w) :
    ∀ (l : List ResultVar) (vs : List AV), resL P s l = some vs → (resSlots l).Nodup →
      ∃ (us : List Value) (b : List Nat), (l.mapM (resSem a)).run P w = .ok us w ∧ RVs w F vs us b ∧ b.Nodup ∧ ∀ y ∈ b, ∃ t ∈ resSlots l, y ∈ bs t
  | [], vs, hv, _ => by
    simp only [resL, Option.some.injEq] at hv
    subst hv
    exact ⟨[], [], by simp, .nil, List.nodup_nil, by simp⟩
  | x :: l, vs, hv, hn => by
    simp only [resL, Option.bind_eq_some_iff, Option.map_eq_some_iff] at hv
    obtain ⟨v, hv, vs', hvs, rfl⟩ := hv
    have one : ∃ (u : Value) (b : List Nat) (t : Nat), resSlots (x :: l) = t :: resSlots l ∧ (resSem a x).run P w = .ok u w ∧ RV w F v u b ∧ b.Nodup ∧ ∀ y ∈ b, y ∈ bs t := by
      cases x with
      | tmp t =>
        obtain ⟨e, hH, _⟩ := seen_some hv
        refine ⟨_, bs t, t, rfl, rfl, ?_, h.nd t, fun _ h => h⟩
        rw [← e]
        exact (h.val t).nonh hH
      | cell t ty =>
        have hval := h.val t
        have hnd := h.nd t
        simp only [resV] at hv
        split at hv
        · rename_i cs n hg ht
          split at hv
          · rename_i hl
            obtain rfl := by simpa using hv
            rw [hg] at hval
            have hval' : RV w F (.box cs) (a.tmps.getD t undef) (bs t) := hval
            generalize hvv : a.tmps.getD t undef = vv at hval'
            generalize hbs : bs t = l0 at hval' hnd
            cases hval' with
            | box _ g c T b hgg hc =>
            obtain ⟨hagg, hsz⟩ := run_ldT ht w
            have hcl : c.toList.length = n := by rw [← hc.length]; exact hl
            have hld := run_loadCells_list (P := P) (w := w) ⟨g, 0, none⟩ c.toList (fun j v hj => by rw [add0, cell_blk hgg]; simpa using hj)
            rw [hcl] at hld
            refine ⟨.agg c, b, t, rfl, ?_, by simpa using RV.agg cs c.toList b hc, (List.nodup_cons.1 hnd).2, fun y hy => by rw [hbs]; simp [hy]⟩
            simp [resSem, hvv, asAddr, loadVar, hagg, run_szT (hsz n rfl), hld]
          · cases hv
        · rename_i x hg ht
          obtain ⟨e, hH, _⟩ := seen_some hv
          subst e
          rw [hg] at hval
          have hval' : RV w F (.box [x]) (a.tmps.getD t undef) (bs t) := hval
          generalize hvv : a.tmps.getD t undef = vv at hval'
          generalize hbs : bs t = l0 at hval' hnd
          cases hval' with
          | box _ g c T b hgg hc =>
          obtain ⟨hagg, _⟩ := run_ldT ht w
          obtain ⟨u, hu, hru⟩ := hc.single
          have hcell : w.cell? ⟨g, 0, none⟩ = some u := by rw [cell_blk hgg, ← Array.getElem?_toList, hu]; rfl
          refine ⟨u, b, t, rfl, ?_, hru, (List.nodup_cons.1 hnd).2, fun y hy => by rw [hbs]; simp [hy]⟩
          simp [resSem, hvv, asAddr, loadVar, hagg, hcell]
        · cases hv
    obtain ⟨u, b, t, e1, e2, e3, e4, e5⟩ := one
    rw [e1, List.nodup_cons] at hn
    obtain ⟨us, b', g1, g2, g3, g4⟩ := resL_ok h l vs' hvs hn.2
    refine ⟨u :: us, b ++ b', ?_, .cons _ _ _ _ _ _ e3 g2, ?_, fun y hy => ?_⟩
    · rw [List.mapM_cons]
      simp only [Sem.run_bind, e2, g1, Result.andThen_ok, Sem.run_pure]
    · rw [List.nodup_append]
      refine ⟨e4, g3, fun p hp q hq e => ?_⟩
      subst e
      obtain ⟨t', ht', hy⟩ := g4 p hq
      rw [h.dj t t' p (e5 p hp) hy] at hn
      exact hn.1 ht'
    · rw [e1]
      rcases List.mem_append.1 hy with hy | hy
      · exact ⟨t, by simp, e5 y hy⟩
      · obtain ⟨t', ht', h'⟩ := g4 y hy
        exact ⟨t', by simp [ht'], h'⟩
end Go.AM
