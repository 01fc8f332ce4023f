/- One of the texts of a proof by an abstract machine over the model. -/
import Derived.Test.YtmhkendlllmodaaGreatDoorFmJ
set_option linter.unusedSimpArgs false
set_option linter.unusedVariables false
namespace Go.FM
open Go

/-! ### code -/
def lastDst (ops : Array Oper) : Option Nat := (ops.back?).bind (·.dst)
def keepT (tm : Asg) (n : Nat) : List Nat → Asg
  | [] => []
  | t :: r => if t < n then keepT tm n r else (t, lk tm t) :: keepT tm n r
/-- behind a region: the temporaries are forgotten, but for the last one, where it is a truth value, and for those to be kept -/
def FS.clean (s : FS) (k : Option Nat) (keep : List Nat) : FS :=
  { s with tm := match k with
    | some d => if d < s.vars.length then keepT s.tm s.vars.length keep else match lk s.tm d with
      | .bool b => (d, .bool b) :: keepT s.tm s.vars.length keep
      | _ => keepT s.tm s.vars.length keep
    | none => keepT s.tm s.vars.length keep }
/-- one state says no more than another -/
def Wk (s1 s : FS) : Prop := ∀ (X : Ctx) (c : Cfg) (a : Act) (w : World), Rel X c s a w → Rel X c s1 a w
theorem Wk.refl (s : FS) : Wk s s := fun _ _ _ _ h => h
theorem Wk.trans {s1 s2 s3 : FS} (h : Wk s1 s2) (h' : Wk s2 s3) : Wk s1 s3 := fun X c a w hr => h X c a w (h' X c a w hr)
theorem FS.le.wk {s1 s : FS} (h : s1.le s) : Wk s1 s := fun _ _ _ _ hr => hr.weaken h
theorem keepT_lk (tm : Asg) (n : Nat) : ∀ (keep : List Nat) (t : Nat), lk (keepT tm n keep) t = .undef ∨ lk (keepT tm n keep) t = lk tm t
  | [], t => .inl rfl
  | d :: r, t => by
    unfold keepT
    split
    · exact keepT_lk tm n r t
    · simp only [lk]
      split
      · rename_i e; subst e; exact .inr rfl
      · exact keepT_lk tm n r t
theorem clean_le (s : FS) (k : Option Nat) (keep : List Nat) : (s.clean k keep).le s := by
  refine ⟨rfl, fun t => ?_, fun l => .inl rfl⟩
  simp only [FS.get, FS.clean]
  by_cases ht : t < s.vars.length
  · simp only [ht, if_true]; exact .inr trivial
  · simp only [ht, if_false]
    cases k with
    | none => exact keepT_lk _ _ _ _
    | some d =>
      simp only
      split
      · exact keepT_lk _ _ _ _
      · split
        · rename_i b hb
          simp only [lk]
          split
          · rename_i e; subst e; rw [hb]; exact .inr rfl
          · exact keepT_lk _ _ _ _
        · exact keepT_lk _ _ _ _
theorem ix_wk (s : FS) (ix : List Nat) : Wk { s with ix := ix } s := fun X c a w ⟨hN, F, m, h1, h2, h⟩ => ⟨hN, F, m, h1, h2, { h with val := h.val }⟩

/-- the same, for the blocks of one function -/
def Gk (c : Cfg) (s1 s : FS) : Prop := ∀ (X : Ctx) (a : Act) (w : World), Rel X c s a w → Rel X c s1 a w
theorem Wk.gk {c : Cfg} {s1 s : FS} (h : Wk s1 s) : Gk c s1 s := fun X a w hr => h X c a w hr
theorem Gk.trans {c : Cfg} {s1 s2 s3 : FS} (h : Gk c s1 s2) (h' : Gk c s2 s3) : Gk c s1 s3 := fun X a w hr => h X a w (h' X a w hr)

def condV (s : FS) : Operand → Option Bool
  | .tmp t => match s.get t with
    | .bool b => some b
    | _ => none
  | .const (.bool b) => some b
  | _ => none
theorem cond_ok {X : Ctx} {c : Cfg} {s : FS} {a : Act} {w : World} {x : Operand} {b : Bool} (h : Rel X c s a w) (hx : condV s x = some b) : a.eval x = .bool b := by
  obtain ⟨_, F, m, _, _, h⟩ := h
  unfold condV at hx
  split at hx
  · rename_i t
    split at hx
    · rename_i b' hb'
      obtain rfl : b' = b := by simpa using hx
      have hv := h.val t
      rw [hb'] at hv
      show a.tmps.getD t undef = _
      generalize a.tmps.getD t undef = v at hv
      cases hv
      rfl
    · cases hx
  · obtain rfl := by simpa using hx
    rfl
  · cases hx

def wCode (P : Program) (c : Cfg) : Code → (Exit → FS → Prop) → FS → Prop
  | .skip, Q, s => Q .normal s
  | .label _, Q, s => Q .normal s
  | .region _ ops false, Q, s => wOps P c ops ops.toList (fun s' => Q .normal (s'.clean (lastDst ops) c.keep)) s
  | .region _ ops true, Q, s => awDraw P c ops (fun s' => Q .normal (s'.clean (lastDst ops) c.keep)) s
  | .seq x y, Q, s => wCode P c x (fun e s' => match e with
    | .normal => wCode P c y Q s'
    | e => Q e s') s
  | .cond x t e, Q, s => match condV s x with
    | some true => wCode P c t Q s
    | some false => wCode P c e Q s
    | none => False
  | .block id b, Q, s => wCode P c b (fun e s' => match e with
    | .exit i => if i = id then Q .normal s' else Q (.exit i) s'
    | e => Q e s') s
  | .loop b, Q, s => ∃ (I : Nat → FS → Prop), (∃ n s1, Gk c s1 s ∧ I n s1) ∧ ∀ n s, I n s → wCode P c b (fun e s' => match e with
    | .normal => ∃ m s1, m < n ∧ Gk c s1 s' ∧ I m s1
    | e => Q e s') s
  | .exit id, Q, s => Q (.exit id) s
  | .ret, Q, s => Q .ret s
  | _, _, _ => False

theorem wCode_ok {P : Program} {X : Ctx} {c : Cfg} : ∀ (code : Code) (Q : Exit → FS → Prop) (Q' : Exit → Act → World → Prop), (∀ e s a w, Rel X c s a w → Q e s → Q' e a w) →
    ∀ (s : FS) (a : Act) (w : World), Rel X c s a w → wCode P c code Q s → code.wp P Q' a w
  | .skip, Q, Q', hQ, s, a, w, h, hs => wp_skip (hQ _ s a w h hs)
  | .label _, Q, Q', hQ, s, a, w, h, hs => wp_label (hQ _ s a w h hs)
  | .region id ops false, Q, Q', hQ, s, a, w, h, hs => wp_region_list (wOps_ok (K := fun s' => Q .normal (s'.clean (lastDst ops) c.keep)) (fun s' a' w' h' hq => hQ _ _ a' w' (h'.weaken (clean_le s' _ _)) hq) ops.toList s a w h hs)
  | .region id ops true, Q, Q', hQ, s, a, w, h, hs => awDraw_ok (K := fun s' => Q .normal (s'.clean (lastDst ops) c.keep)) (fun s' a' w' h' hq => hQ _ _ a' w' (h'.weaken (clean_le s' _ _)) hq) h hs
  | .seq x y, Q, Q', hQ, s, a, w, h, hs => wp_seq (wCode_ok x _ _ (fun e s' a' w' h' hq => by
      cases e with
      | normal => exact wCode_ok y Q Q' hQ s' a' w' h' hq
      | _ => exact hQ _ s' a' w' h' hq) s a w h hs)
  | .cond x t e, Q, Q', hQ, s, a, w, h, hs => by
    simp only [wCode] at hs
    split at hs
    · rename_i hc; exact wp_cond_true (cond_ok h hc) (wCode_ok t Q Q' hQ s a w h hs)
    · rename_i hc; exact wp_cond_false (cond_ok h hc) (wCode_ok e Q Q' hQ s a w h hs)
    · exact hs.elim
  | .block id b, Q, Q', hQ, s, a, w, h, hs => wp_block (wCode_ok b _ _ (fun e s' a' w' h' hq => by
      cases e with
      | exit i =>
        simp only [Exit.inBlock]
        simp only at hq
        split
        · rename_i e; rw [if_pos e] at hq; exact hQ _ s' a' w' h' hq
        · rename_i e; rw [if_neg e] at hq; exact hQ _ s' a' w' h' hq
      | _ => exact hQ _ s' a' w' h' hq) s a w h hs)
  | .loop b, Q, Q', hQ, s, a, w, h, hs => by
    obtain ⟨I, ⟨n, s1, hle, hI⟩, hround⟩ := hs
    refine wp_loop_rounds (n + 1) ?_
    have key : ∀ (k n : Nat) (s : FS) (a : Act) (w : World), n < k → I n s → Rel X c s a w → Code.rounds P b Q' k a w := by
      intro k
      induction k with
      | zero => intro n s a w hm; omega
      | succ k ih =>
        intro n s a w hm hI h
        rw [rounds_succ]
        exact wCode_ok b _ _ (fun e s' a' w' h' hq => by
          cases e with
          | normal =>
            obtain ⟨m, s2, hm2, hle2, hI2⟩ := hq
            exact ih m s2 a' w' (by omega) hI2 (hle2 X a' w' h')
          | _ => exact hQ _ s' a' w' h' hq) s a w h (hround n s hI)
    exact key _ n s1 a w (by omega) hI (hle X a w h)
  | .exit id, Q, Q', hQ, s, a, w, h, hs => wp_exit (hQ _ s a w h hs)
  | .ret, Q, Q', hQ, s, a, w, h, hs => wp_ret (hQ _ s a w h hs)
  | .rangeFunc .., Q, Q', hQ, s, a, w, h, hs => (hs : False).elim
  | .scope _, Q, Q', hQ, s, a, w, h, hs => (hs : False).elim
  | .goto _, Q, Q', hQ, s, a, w, h, hs => (hs : False).elim
  | .refuse _, Q, Q', hQ, s, a, w, h, hs => (hs : False).elim

/-! ### a function -/
def resV (P : Program) (s : FS) : ResultVar → Option FV
  | .tmp t => some (s.get t)
  | .cell t ty => fLoad P s.H ty (s.get t)
def resL (P : Program) (s : FS) : List ResultVar → Option (List FV)
  | [] => some []
  | x :: r => (resV P s x).bind fun v => (resL P s r).map (v :: ·)
def FS.init (nv : Nat) (args : List FV) (H : Heap) : FS := { vars := args ++ List.replicate (nv - args.length) .undef, tm := [], H := H, ix := [] }
def tupOf : List FV → FV
  | [x] => x
  | l => .tup l
def resSem (a : Act) : ResultVar → Sem Value
  | .tmp t => pure (a.tmps.getD t undef)
  | .cell x t => do loadVar t (← asAddr (a.tmps.getD x undef))
theorem resV_ok {P : Program} {X : Ctx} {F : Nat → Prop} {m : Loc → Nat × Nat} {s : FS} {a : Act} {w : World} (h : RelX X F m s a w) {x : ResultVar} {v : FV} (hv : resV P s x = some v) :
    ∃ u, (resSem a x).run P w = .ok u w ∧ RF w F (fun l => s.H l ≠ none) m v u := by
  cases x with
  | tmp t =>
    obtain rfl := by simpa [resV] using hv
    exact ⟨_, rfl, h.val t⟩
  | cell t ty =>
    obtain ⟨u, h1, h2⟩ := fLoad_ok (P := P) h.heap hv (h.val t)
    refine ⟨u, ?_, h2⟩
    have hp : ∃ ad, a.tmps.getD t undef = .pointer (some ad) := by
      have ht := h.val t
      simp only [resV] at hv
      unfold fLoad at hv
      split at hv
      · cases hv
      · split at hv
        · rename_i hg; rw [hg] at ht; generalize a.tmps.getD t undef = z at ht; cases ht; exact ⟨_, rfl⟩
        · rename_i hg; rw [hg] at ht; generalize a.tmps.getD t undef = z at ht; cases ht; exact ⟨_, rfl⟩
        · cases hv
      · split at hv
        · rename_i hg; rw [hg] at ht; generalize a.tmps.getD t undef = z at ht; cases ht; exact ⟨_, rfl⟩
        · rename_i hg; rw [hg] at ht; generalize a.tmps.getD t undef = z at ht; cases ht; exact ⟨_, rfl⟩
        · cases hv
      · split at hv
        · rename_i hg; rw [hg] at ht; generalize a.tmps.getD t undef = z at ht; cases ht; exact ⟨_, rfl⟩
        · rename_i hg; rw [hg] at ht; generalize a.tmps.getD t undef = z at ht; cases ht; exact ⟨_, rfl⟩
        · cases hv
    obtain ⟨ad, hp⟩ := hp
    rw [hp] at h1
    simp only [resSem, hp, asAddr]
    simpa [Instr.loadAt, Instr.sureAddr] using h1
theorem resL_ok {P : Program} {X : Ctx} {F : Nat → Prop} {m : Loc → Nat × Nat} {s : FS} {a : Act} {w : World} (h : RelX X F m s a w) :
    ∀ (l : List ResultVar) (vs : List FV), resL P s l = some vs → ∃ us : List Value, (l.mapM (resSem a)).run P w = .ok us w ∧ RFs w F (fun l => s.H l ≠ none) m vs us
  | [], vs, hv => by
    simp only [resL, Option.some.injEq] at hv
    subst hv
    exact ⟨[], by simp, .nil⟩
  | x :: l, vs, hv => by
    simp only [resL, Option.bind_eq_some_iff, Option.map_eq_some_iff] at hv
    obtain ⟨v, hv, vs', hvs, rfl⟩ := hv
    obtain ⟨u, g1, g2⟩ := resV_ok h hv
    obtain ⟨us, k1, k2⟩ := resL_ok h l vs' hvs
    refine ⟨u :: us, ?_, .cons _ _ _ _ g2 k2⟩
    rw [List.mapM_cons]
    simp only [Sem.run_bind, g1, k1, Result.andThen_ok, Sem.run_pure]

theorem getD_append_rep {α : Type} (l : List α) (n t : Nat) (u : α) : (l ++ List.replicate n u).getD t u = l.getD t u := by
  rw [List.getD_eq_getElem?_getD, List.getD_eq_getElem?_getD]
  rcases Nat.lt_or_ge t l.length with h | h
  · rw [List.getElem?_append_left h]
  · rw [List.getElem?_append_right h, List.getElem?_eq_none h]
    rcases Nat.lt_or_ge (t - l.length) n with h' | h'
    · simp [h']
    · rw [List.getElem?_eq_none (by simpa using h')]
theorem init_get (nv : Nat) (args : List FV) (H : Heap) (t : Nat) : (FS.init nv args H).get t = args.getD t .undef := by
  by_cases h : t < (FS.init nv args H).vars.length
  · unfold FS.get
    rw [if_pos h]; exact getD_append_rep args _ t .undef
  · unfold FS.get
    rw [if_neg h]
    show FV.undef = _
    rw [List.getD_eq_getElem?_getD, List.getElem?_eq_none]
    · rfl
    · simp [FS.init] at h; omega
theorem RFs.getD {w : World} {F : Nat → Prop} {U : Loc → Prop} {m : Loc → Nat × Nat} : ∀ {as : List FV} {vs : List Value}, RFs w F U m as vs → ∀ t, RF w F U m (as.getD t .undef) (vs.getD t undef)
  | _, _, .nil, t => by simpa using RF.undef _
  | _, _, .cons a v as vs h hs, 0 => by simpa using h
  | _, _, .cons a v as vs h hs, t + 1 => by simpa using RFs.getD hs t

/-- a function's run: what stands at its end -/
theorem fn_run_wp {P : Program} {f : FuncId} {fn : Func} {code : Code} {c : Cfg} {nv : Nat} {args : List FV} {H : Heap} {R : FS → List FV → Prop} (hf : P.funcs[f]? = some fn) (hb : fn.body = some code) (hN : c.N = fn.ntmps)
    (hargs : args.length ≤ nv) (hnv : nv ≤ fn.ntmps) (h : ∀ (X : Ctx) (Q' : Exit → Act → World → Prop), (∀ e s a w, Rel X c s a w → ((e = .normal ∨ e = .ret) ∧ ∃ s1, Wk s1 s ∧ ∃ l, resL P s1 fn.results.toList = some l ∧ R s1 l) → Q' e a w) → ∀ a w, Rel X c (FS.init nv args H) a w → code.wp P Q' a w)
    (hL : ∀ l, H l ≠ none → c.L l) (w : World) (F : Nat → Prop) (m : Loc → Nat × Nat) (vs : List Value) (hF : ∀ y, F y → y < w.heap.size) (hG : GlobOk c.G F w) (hv : RFs w F (fun l => H l ≠ none) m args vs) (hH : HeapR w F m H) :
    Calls P f vs.toArray w fun e w' => ∃ (v : Value) (s1 : FS) (l : List FV) (F' : Nat → Prop) (m' : Loc → Nat × Nat) (a : Act), e = .returned v ∧ R s1 l ∧ (∀ y, F y → F' y) ∧ (∀ y, F' y → F y ∨ w.heap.size ≤ y) ∧ RelX ⟨w, F, H, m⟩ F' m' s1 a w' ∧
      RF w' F' (fun l => s1.H l ≠ none) m' (tupOf l) v := by
  have hlen := hv.length
  let X : Ctx := ⟨w, F, H, m⟩
  let a0 : Act := { tmps := vs.toArray ++ Array.replicate (fn.ntmps - vs.toArray.size) undef, defers := [] }
  have hget : ∀ t, a0.tmps.getD t undef = vs.getD t undef := fun t => by
    show (vs.toArray ++ Array.replicate (fn.ntmps - vs.toArray.size) undef).getD t undef = _
    rw [Array.getD_eq_getD_getElem?, ← Array.getElem?_toList]
    simp only [Array.toList_append, Array.toList_replicate]
    rw [← List.getD_eq_getElem?_getD]
    exact getD_append_rep vs _ t undef
  have hsz : a0.tmps.size = fn.ntmps := by
    show (vs.toArray ++ Array.replicate (fn.ntmps - vs.toArray.size) undef).size = _
    simp; omega
  have hrel : Rel X c (FS.init nv args H) a0 w := by
    refine ⟨by rw [hN]; exact hsz, F, m, ⟨fun _ h => h, hG, fun p hp ⟨l, hl, e⟩ => (hH.old l hl).2 (by rw [show (m l).1 = p.1 from e]; exact (hG p hp).1), hL⟩, fun y hy => .inl hy, ?_⟩
    exact { df := rfl, vsz := by rw [hsz]; simp only [FS.init, List.length_append, List.length_replicate]; omega, val := fun t => by rw [init_get, hget]; exact hv.getD t, heap := hH, own := fun l hl => .inl ⟨l, hl, rfl⟩,
            ext := fun l hl => hl, mfix := fun _ _ => rfl, frz := hF, keep := fun _ _ _ => rfl, size := Nat.le_refl _, os := rfl, tape := rfl, output := rfl }
  refine calls_of_wp hf hb ?_
  refine h X _ (fun e s a w' h' hq => ?_) a0 w hrel
  obtain ⟨he, s1, hwk, l, hl, hR0⟩ := hq
  obtain ⟨hN', F', m', k1, k2, hR⟩ := hwk X c a w' h'
  obtain ⟨us, m1, m2⟩ := resL_ok hR _ _ hl
  have hrun : ∃ v, (results fn a.tmps).run P w' = .ok v w' ∧ RF w' F' (fun l => s1.H l ≠ none) m' (tupOf l) v := by
    have hm : (fn.results.mapM (resSem a)).run P w' = .ok us.toArray w' := by
      rw [Array.mapM_eq_mapM_toList]
      simp only [Sem.run_map, m1, Result.andThen_ok]
    have hres : results fn a.tmps = (do let vs ← fn.results.mapM (resSem a); pure (if h : vs.size = 1 then vs[0] else .tuple vs) : Sem Value) := by
      unfold results
      congr 1
    rw [hres, Sem.run_bind, hm]
    simp only [Result.andThen_ok, Sem.run_pure]
    have hul := m2.length
    by_cases h1 : us.toArray.size = 1
    · rw [dif_pos h1]
      have hus : us.length = 1 := by simpa using h1
      match us, l, hus, hul, m2 with
      | [u], [x], _, _, m2 =>
        obtain ⟨v, hv, hrv⟩ := m2.single
        simp only [List.cons.injEq, and_true] at hv
        subst hv
        exact ⟨u, rfl, hrv⟩
    · rw [dif_neg h1]
      refine ⟨_, rfl, ?_⟩
      have hus : us.length ≠ 1 := by simpa using h1
      have : tupOf l = .tup l := by
        match l, hul with
        | [], _ => rfl
        | [x], hul => exact absurd (by rw [← hul]; rfl) hus
        | x :: y :: l, _ => rfl
      rw [this]
      exact .tup l us m2
  obtain ⟨v, hv1, hv2⟩ := hrun
  have hpost : a.defers = [] ∧ ∃ v, (results fn a.tmps).run P w' = .ok v w' ∧ ∃ (v' : Value) (s1 : FS) (l : List FV) (F' : Nat → Prop) (m' : Loc → Nat × Nat) (a : Act), Ending.returned v = .returned v' ∧ R s1 l ∧ (∀ y, F y → F' y) ∧
      (∀ y, F' y → F y ∨ w.heap.size ≤ y) ∧ RelX ⟨w, F, H, m⟩ F' m' s1 a w' ∧ RF w' F' (fun l => s1.H l ≠ none) m' (tupOf l) v' :=
    ⟨hR.df, v, hv1, v, s1, l, F', m', a, rfl, hR0, k1.up, k2, hR, hv2⟩
  rcases he with rfl | rfl
  · exact hpost
  · exact hpost
/-- a function's run: what stands at its end -/
theorem fn_run {P : Program} {f : FuncId} {fn : Func} {code : Code} {c : Cfg} {nv : Nat} {args : List FV} {H : Heap} {R : FS → List FV → Prop} (hf : P.funcs[f]? = some fn) (hb : fn.body = some code) (hN : c.N = fn.ntmps)
    (hargs : args.length ≤ nv) (hnv : nv ≤ fn.ntmps) (h : wCode P c code (fun e s => (e = .normal ∨ e = .ret) ∧ ∃ s1, Wk s1 s ∧ ∃ l, resL P s1 fn.results.toList = some l ∧ R s1 l) (FS.init nv args H))
    (hL : ∀ l, H l ≠ none → c.L l) (w : World) (F : Nat → Prop) (m : Loc → Nat × Nat) (vs : List Value) (hF : ∀ y, F y → y < w.heap.size) (hG : GlobOk c.G F w) (hv : RFs w F (fun l => H l ≠ none) m args vs) (hH : HeapR w F m H) :
    Calls P f vs.toArray w fun e w' => ∃ (v : Value) (s1 : FS) (l : List FV) (F' : Nat → Prop) (m' : Loc → Nat × Nat) (a : Act), e = .returned v ∧ R s1 l ∧ (∀ y, F y → F' y) ∧ (∀ y, F' y → F y ∨ w.heap.size ≤ y) ∧ RelX ⟨w, F, H, m⟩ F' m' s1 a w' ∧
      RF w' F' (fun l => s1.H l ≠ none) m' (tupOf l) v :=
  fn_run_wp hf hb hN hargs hnv (fun X Q' hQ a w hr => wCode_ok code _ _ hQ _ a w hr h) hL w F m vs hF hG hv hH
/-- the end of a function that makes and turns blocks -/
def KEnd (P : Program) (res : List ResultVar) (r : FV) (H' : Heap) (e : Exit) (s : FS) : Prop :=
  (e = .normal ∨ e = .ret) ∧ ∃ s1, Wk s1 s ∧ ∃ l, resL P s1 res = some l ∧ (s1.H = H' ∧ tupOf l = r)
theorem FC_of {P : Program} {f : FuncId} {fn : Func} {code : Code} {c : Cfg} {nv : Nat} {args : List FV} {H : Heap} {r : FV} {H' : Heap} (hf : P.funcs[f]? = some fn) (hb : fn.body = some code) (hN : c.N = fn.ntmps)
    (hargs : args.length ≤ nv) (hnv : nv ≤ fn.ntmps) (hL : ∀ l, H l ≠ none → c.L l) (h : wCode P c code (KEnd P fn.results.toList r H') (FS.init nv args H)) : FC P c.G f args H r H' := by
  intro w F m vs hF hG hv hH
  refine (fn_run hf hb hN hargs hnv h hL w F m vs hF hG hv hH).mono ?_
  rintro e w' ⟨v, s1, l, F', m', a, rfl, ⟨rfl, rfl⟩, k1, k2, hR, hv2⟩
  refine ⟨v, F', m', rfl, k1, fun y hy => ⟨k2 y hy, hR.frz y hy⟩, fun l hl => ⟨hR.mfix l hl, hR.ext l hl⟩, hv2, hR.heap, fun l hl => ?_, hR.size, fun y hy hn => hR.keep y hy fun ⟨l, h1, h2⟩ => hn l h1 h2, hR.os, hR.tape, hR.output⟩
  rcases hR.own l hl with ⟨k, h1, h2⟩ | h1
  · exact .inl ⟨k, h1, h2⟩
  · exact .inr h1
end Go.FM
