/- Texts of a proof by an abstract machine over the model. -/
import Derived.Test.YtmhkendlllmodaaGreatDoorP2
import Derived.Below
set_option linter.unusedSimpArgs false
set_option linter.unusedVariables false
namespace Go.FM
open Go

/-! ### code -/
def lastDst (ops : Array Oper) : Option Nat := (ops.back?).bind (·.dst)
def keepT (tm : Asg) (n : Nat) : List Nat → Asg
  | [] => []
  | t :: r => if t < n then keepT tm n r else (t, lk tm t) :: keepT tm n r
/-- behind a region: the temporaries are forgotten, but for the last one, where it is a truth value, and for those to be kept -/
def FS.clean (s : FS) (k : Option Nat) (keep : List Nat) : FS :=
  { s with tm := match k with
    | some d => if d < s.vars.length then keepT s.tm s.vars.length keep else match lk s.tm d with
      | .bool b => (d, .bool b) :: keepT s.tm s.vars.length keep
      | _ => keepT s.tm s.vars.length keep
    | none => keepT s.tm s.vars.length keep }
/-- one state says no more than another -/
def Wk (s1 s : FS) : Prop := ∀ (X : Ctx) (c : Cfg) (a : Act) (w : World), Rel X c s a w → Rel X c s1 a w
theorem Wk.refl (s : FS) : Wk s s := fun _ _ _ _ h => h
theorem Wk.trans {s1 s2 s3 : FS} (h : Wk s1 s2) (h' : Wk s2 s3) : Wk s1 s3 := fun X c a w hr => h X c a w (h' X c a w hr)
theorem FS.le.wk {s1 s : FS} (h : s1.le s) : Wk s1 s := fun _ _ _ _ hr => hr.weaken h
theorem keepT_lk (tm : Asg) (n : Nat) : ∀ (keep : List Nat) (t : Nat), lk (keepT tm n keep) t = .undef ∨ lk (keepT tm n keep) t = lk tm t
  | [], t => .inl rfl
  | d :: r, t => by
    unfold keepT
    split
    · exact keepT_lk tm n r t
    · simp only [lk]
      split
      · rename_i e; subst e; exact .inr rfl
      · exact keepT_lk tm n r t
theorem clean_le (s : FS) (k : Option Nat) (keep : List Nat) : (s.clean k keep).le s := by
  refine ⟨rfl, fun t => ?_, fun l => .inl rfl⟩
  simp only [FS.get, FS.clean]
  by_cases ht : t < s.vars.length
  · simp only [ht, if_true]; exact .inr trivial
  · simp only [ht, if_false]
    cases k with
    | none => exact keepT_lk _ _ _ _
    | some d =>
      simp only
      split
      · exact keepT_lk _ _ _ _
      · split
        · rename_i b hb
          simp only [lk]
          split
          · rename_i e; subst e; rw [hb]; exact .inr rfl
          · exact keepT_lk _ _ _ _
        · exact keepT_lk _ _ _ _
theorem ix_wk (s : FS) (ix : List Nat) : Wk { s with ix := ix } s := fun X c a w ⟨hN, F, m, h1, h2, h⟩ => ⟨hN, F, m, h1, h2, { h with val := h.val }⟩

/-- the same, for the blocks of one function -/
def Gk (c : Cfg) (s1 s : FS) : Prop := ∀ (X : Ctx) (a : Act) (w : World), Rel X c s a w → Rel X c s1 a w
theorem Wk.gk {c : Cfg} {s1 s : FS} (h : Wk s1 s) : Gk c s1 s := fun X a w hr => h X c a w hr
theorem Gk.trans {c : Cfg} {s1 s2 s3 : FS} (h : Gk c s1 s2) (h' : Gk c s2 s3) : Gk c s1 s3 := fun X a w hr => h X a w (h' X a w hr)

def condV (s : FS) : Operand → Option Bool
  | .tmp t => match s.get t with
    | .bool b => some b
    | _ => none
  | .const (.bool b) => some b
  | _ => none
theorem cond_ok {X : Ctx} {c : Cfg} {s : FS} {a : Act} {w : World} {x : Operand} {b : Bool} (h : Rel X c s a w) (hx : condV s x = some b) : a.eval x = .bool b := by
  obtain ⟨_, F, m, _, _, h⟩ := h
  unfold condV at hx
  split at hx
  · rename_i t
    split at hx
    · rename_i b' hb'
      obtain rfl : b' = b := by simpa using hx
      have hv := h.val t
      rw [hb'] at hv
      show a.tmps.getD t undef = _
      generalize a.tmps.getD t undef = v at hv
      cases hv
      rfl
    · cases hx
  · obtain rfl := by simpa using hx
    rfl
  · cases hx

def wCode (P : Program) (c : Cfg) : Code → (Exit → FS → Prop) → FS → Prop
  | .skip, Q, s => Q .normal s
  | .label _, Q, s => Q .normal s
  | .region _ ops false, Q, s => wOps P c ops ops.toList (fun s' => Q .normal (s'.clean (lastDst ops) c.keep)) s
  | .region _ ops true, Q, s => awDraw P c ops (fun s' => Q .normal (s'.clean (lastDst ops) c.keep)) s
  | .seq x y, Q, s => wCode P c x (fun e s' => match e with
    | .normal => wCode P c y Q s'
    | e => Q e s') s
  | .cond x t e, Q, s => match condV s x with
    | some true => wCode P c t Q s
    | some false => wCode P c e Q s
    | none => False
  | .block id b, Q, s => wCode P c b (fun e s' => match e with
    | .exit i => if i = id then Q .normal s' else Q (.exit i) s'
    | e => Q e s') s
  | .loop b, Q, s => ∃ (I : Nat → FS → Prop), (∃ n s1, Gk c s1 s ∧ I n s1) ∧ ∀ n s, I n s → wCode P c b (fun e s' => match e with
    | .normal => ∃ m s1, m < n ∧ Gk c s1 s' ∧ I m s1
    | e => Q e s') s
  | .exit id, Q, s => Q (.exit id) s
  | .ret, Q, s => Q .ret s
  | _, _, _ => False

theorem wCode_ok {P : Program} {X : Ctx} {c : Cfg} : ∀ (code : Code) (Q : Exit → FS → Prop) (Q' : Exit → Act → World → Prop), (∀ e s a w, Rel X c s a w → Q e s → Q' e a w) →
    ∀ (s : FS) (a : Act) (w : World), Rel X c s a w → wCode P c code Q s → code.wp P Q' a w
  | .skip, Q, Q', hQ, s, a, w, h, hs => wp_skip (hQ _ s a w h hs)
  | .label _, Q, Q', hQ, s, a, w, h, hs => wp_label (hQ _ s a w h hs)
  | .region id ops false, Q, Q', hQ, s, a, w, h, hs => wp_region_list (wOps_ok (K := fun s' => Q .normal (s'.clean (lastDst ops) c.keep)) (fun s' a' w' h' hq => hQ _ _ a' w' (h'.weaken (clean_le s' _ _)) hq) ops.toList s a w h hs)
  | .region id ops true, Q, Q', hQ, s, a, w, h, hs => awDraw_ok (K := fun s' => Q .normal (s'.clean (lastDst ops) c.keep)) (fun s' a' w' h' hq => hQ _ _ a' w' (h'.weaken (clean_le s' _ _)) hq) h hs
  | .seq x y, Q, Q', hQ, s, a, w, h, hs => wp_seq (wCode_ok x _ _ (fun e s' a' w' h' hq => by
      cases e with
      | normal => exact wCode_ok y Q Q' hQ s' a' w' h' hq
      | _ => exact hQ _ s' a' w' h' hq) s a w h hs)
  | .cond x t e, Q, Q', hQ, s, a, w, h, hs => by
    simp only [wCode] at hs
    split at hs
    · rename_i hc; exact wp_cond_true (cond_ok h hc) (wCode_ok t Q Q' hQ s a w h hs)
    · rename_i hc; exact wp_cond_false (cond_ok h hc) (wCode_ok e Q Q' hQ s a w h hs)
    · exact hs.elim
  | .block id b, Q, Q', hQ, s, a, w, h, hs => wp_block (wCode_ok b _ _ (fun e s' a' w' h' hq => by
      cases e with
      | exit i =>
        simp only [Exit.inBlock]
        simp only at hq
        split
        · rename_i e; rw [if_pos e] at hq; exact hQ _ s' a' w' h' hq
        · rename_i e; rw [if_neg e] at hq; exact hQ _ s' a' w' h' hq
      | _ => exact hQ _ s' a' w' h' hq) s a w h hs)
  | .loop b, Q, Q', hQ, s, a, w, h, hs => by
    obtain ⟨I, ⟨n, s1, hle, hI⟩, hround⟩ := hs
    refine wp_loop_rounds (n + 1) ?_
    have key : ∀ (k n : Nat) (s : FS) (a : Act) (w : World), n < k → I n s → Rel X c s a w → Code.rounds P b Q' k a w := by
      intro k
      induction k with
      | zero => intro n s a w hm; omega
      | succ k ih =>
        intro n s a w hm hI h
        rw [rounds_succ]
        exact wCode_ok b _ _ (fun e s' a' w' h' hq => by
          cases e with
          | normal =>
            obtain ⟨m, s2, hm2, hle2, hI2⟩ := hq
            exact ih m s2 a' w' (by omega) hI2 (hle2 X a' w' h')
          | _ => exact hQ _ s' a' w' h' hq) s a w h (hround n s hI)
    exact key _ n s1 a w (by omega) hI (hle X a w h)
  | .exit id, Q, Q', hQ, s, a, w, h, hs => wp_exit (hQ _ s a w h hs)
  | .ret, Q, Q', hQ, s, a, w, h, hs => wp_ret (hQ _ s a w h hs)
  | .rangeFunc .., Q, Q', hQ, s, a, w, h, hs => (hs : False).elim
  | .scope _, Q, Q', hQ, s, a, w, h, hs => (hs : False).elim
  | .goto _, Q, Q', hQ, s, a, w, h, hs => (hs : False).elim
  | .refuse _, Q, Q', hQ, s, a, w, h, hs => (hs : False).elim

/-! ### a function -/
def resV (P : Program) (s : FS) : ResultVar → Option FV
  | .tmp t => some (s.get t)
  | .cell t ty => fLoad P s.H ty (s.get t)
def resL (P : Program) (s : FS) : List ResultVar → Option (List FV)
  | [] => some []
  | x :: r => (resV P s x).bind fun v => (resL P s r).map (v :: ·)
def FS.init (nv : Nat) (args : List FV) (H : Heap) : FS := { vars := args ++ List.replicate (nv - args.length) .undef, tm := [], H := H, ix := [] }
def tupOf : List FV → FV
  | [x] => x
  | l => .tup l
def resSem (a : Act) : ResultVar → Sem Value
  | .tmp t => pure (a.tmps.getD t undef)
  | .cell x t => do loadVar t (← asAddr (a.tmps.getD x undef))
theorem resV_ok {P : Program} {X : Ctx} {F : Nat → Prop} {m : Loc → Nat × Nat} {s : FS} {a : Act} {w : World} (h : RelX X F m s a w) {x : ResultVar} {v : FV} (hv : resV P s x = some v) :
    ∃ u, (resSem a x).run P w = .ok u w ∧ RF w F (fun l => s.H l ≠ none) m v u := by
  cases x with
  | tmp t =>
    obtain rfl := by simpa [resV] using hv
    exact ⟨_, rfl, h.val t⟩
  | cell t ty =>
    obtain ⟨u, h1, h2⟩ := fLoad_ok (P := P) h.heap hv (h.val t)
    refine ⟨u, ?_, h2⟩
    have hp : ∃ ad, a.tmps.getD t undef = .pointer (some ad) := by
      have ht := h.val t
      simp only [resV] at hv
      unfold fLoad at hv
      split at hv
      · cases hv
      · split at hv
        · rename_i hg; rw [hg] at ht; generalize a.tmps.getD t undef = z at ht; cases ht; exact ⟨_, rfl⟩
        · rename_i hg; rw [hg] at ht; generalize a.tmps.getD t undef = z at ht; cases ht; exact ⟨_, rfl⟩
        · cases hv
      · split at hv
        · rename_i hg; rw [hg] at ht; generalize a.tmps.getD t undef = z at ht; cases ht; exact ⟨_, rfl⟩
        · rename_i hg; rw [hg] at ht; generalize a.tmps.getD t undef = z at ht; cases ht; exact ⟨_, rfl⟩
        · cases hv
      · split at hv
        · rename_i hg; rw [hg] at ht; generalize a.tmps.getD t undef = z at ht; cases ht; exact ⟨_, rfl⟩
        · rename_i hg; rw [hg] at ht; generalize a.tmps.getD t undef = z at ht; cases ht; exact ⟨_, rfl⟩
        · cases hv
    obtain ⟨ad, hp⟩ := hp
    rw [hp] at h1
    simp only [resSem, hp, asAddr]
    simpa [Instr.loadAt, Instr.sureAddr] using h1
theorem resL_ok {P : Program} {X : Ctx} {F : Nat → Prop} {m : Loc → Nat × Nat} {s : FS} {a : Act} {w : World} (h : RelX X F m s a w) :
    ∀ (l : List ResultVar) (vs : List FV), resL P s l = some vs → ∃ us : List Value, (l.mapM (resSem a)).run P w = .ok us w ∧ RFs w F (fun l => s.H l ≠ none) m vs us
  | [], vs, hv => by
    simp only [resL, Option.some.injEq] at hv
    subst hv
    exact ⟨[], by simp, .nil⟩
  | x :: l, vs, hv => by
    simp only [resL, Option.bind_eq_some_iff, Option.map_eq_some_iff] at hv
    obtain ⟨v, hv, vs', hvs, rfl⟩ := hv
    obtain ⟨u, g1, g2⟩ := resV_ok h hv
    obtain ⟨us, k1, k2⟩ := resL_ok h l vs' hvs
    refine ⟨u :: us, ?_, .cons _ _ _ _ g2 k2⟩
    rw [List.mapM_cons]
    simp only [Sem.run_bind, g1, k1, Result.andThen_ok, Sem.run_pure]

theorem getD_append_rep {α : Type} (l : List α) (n t : Nat) (u : α) : (l ++ List.replicate n u).getD t u = l.getD t u := by
  rw [List.getD_eq_getElem?_getD, List.getD_eq_getElem?_getD]
  rcases Nat.lt_or_ge t l.length with h | h
  · rw [List.getElem?_append_left h]
  · rw [List.getElem?_append_right h, List.getElem?_eq_none h]
    rcases Nat.lt_or_ge (t - l.length) n with h' | h'
    · simp [h']
    · rw [List.getElem?_eq_none (by simpa using h')]
theorem init_get (nv : Nat) (args : List FV) (H : Heap) (t : Nat) : (FS.init nv args H).get t = args.getD t .undef := by
  by_cases h : t < (FS.init nv args H).vars.length
  · unfold FS.get
    rw [if_pos h]; exact getD_append_rep args _ t .undef
  · unfold FS.get
    rw [if_neg h]
    show FV.undef = _
    rw [List.getD_eq_getElem?_getD, List.getElem?_eq_none]
    · rfl
    · simp [FS.init] at h; omega
theorem RFs.getD {w : World} {F : Nat → Prop} {U : Loc → Prop} {m : Loc → Nat × Nat} : ∀ {as : List FV} {vs : List Value}, RFs w F U m as vs → ∀ t, RF w F U m (as.getD t .undef) (vs.getD t undef)
  | _, _, .nil, t => by simpa using RF.undef _
  | _, _, .cons a v as vs h hs, 0 => by simpa using h
  | _, _, .cons a v as vs h hs, t + 1 => by simpa using RFs.getD hs t

/-- a function's run: what stands at its end -/
theorem fn_run_wp {P : Program} {f : FuncId} {fn : Func} {code : Code} {c : Cfg} {nv : Nat} {args : List FV} {H : Heap} {R : FS → List FV → Prop} (hf : P.funcs[f]? = some fn) (hb : fn.body = some code) (hN : c.N = fn.ntmps)
    (hargs : args.length ≤ nv) (hnv : nv ≤ fn.ntmps) (h : ∀ (X : Ctx) (Q' : Exit → Act → World → Prop), (∀ e s a w, Rel X c s a w → ((e = .normal ∨ e = .ret) ∧ ∃ s1, Wk s1 s ∧ ∃ l, resL P s1 fn.results.toList = some l ∧ R s1 l) → Q' e a w) → ∀ a w, Rel X c (FS.init nv args H) a w → code.wp P Q' a w)
    (hL : ∀ l, H l ≠ none → c.L l) (w : World) (F : Nat → Prop) (m : Loc → Nat × Nat) (vs : List Value) (hF : ∀ y, F y → y < w.heap.size) (hG : GlobOk c.G F w) (hv : RFs w F (fun l => H l ≠ none) m args vs) (hH : HeapR w F m H) :
    Calls P f vs.toArray w fun e w' => ∃ (v : Value) (s1 : FS) (l : List FV) (F' : Nat → Prop) (m' : Loc → Nat × Nat) (a : Act), e = .returned v ∧ R s1 l ∧ (∀ y, F y → F' y) ∧ (∀ y, F' y → F y ∨ w.heap.size ≤ y) ∧ RelX ⟨w, F, H, m⟩ F' m' s1 a w' ∧
      RF w' F' (fun l => s1.H l ≠ none) m' (tupOf l) v := by
  have hlen := hv.length
  let X : Ctx := ⟨w, F, H, m⟩
  let a0 : Act := { tmps := vs.toArray ++ Array.replicate (fn.ntmps - vs.toArray.size) undef, defers := [] }
  have hget : ∀ t, a0.tmps.getD t undef = vs.getD t undef := fun t => by
    show (vs.toArray ++ Array.replicate (fn.ntmps - vs.toArray.size) undef).getD t undef = _
    rw [Array.getD_eq_getD_getElem?, ← Array.getElem?_toList]
    simp only [Array.toList_append, Array.toList_replicate]
    rw [← List.getD_eq_getElem?_getD]
    exact getD_append_rep vs _ t undef
  have hsz : a0.tmps.size = fn.ntmps := by
    show (vs.toArray ++ Array.replicate (fn.ntmps - vs.toArray.size) undef).size = _
    simp; omega
  have hrel : Rel X c (FS.init nv args H) a0 w := by
    refine ⟨by rw [hN]; exact hsz, F, m, ⟨fun _ h => h, hG, fun p hp ⟨l, hl, e⟩ => (hH.old l hl).2 (by rw [show (m l).1 = p.1 from e]; exact (hG p hp).1), hL⟩, fun y hy => .inl hy, ?_⟩
    exact { df := rfl, vsz := by rw [hsz]; simp only [FS.init, List.length_append, List.length_replicate]; omega, val := fun t => by rw [init_get, hget]; exact hv.getD t, heap := hH, own := fun l hl => .inl ⟨l, hl, rfl⟩,
            ext := fun l hl => hl, mfix := fun _ _ => rfl, frz := hF, keep := fun _ _ _ => rfl, size := Nat.le_refl _, os := rfl, tape := rfl, output := rfl }
  refine calls_of_wp hf hb ?_
  refine h X _ (fun e s a w' h' hq => ?_) a0 w hrel
  obtain ⟨he, s1, hwk, l, hl, hR0⟩ := hq
  obtain ⟨hN', F', m', k1, k2, hR⟩ := hwk X c a w' h'
  obtain ⟨us, m1, m2⟩ := resL_ok hR _ _ hl
  have hrun : ∃ v, (results fn a.tmps).run P w' = .ok v w' ∧ RF w' F' (fun l => s1.H l ≠ none) m' (tupOf l) v := by
    have hm : (fn.results.mapM (resSem a)).run P w' = .ok us.toArray w' := by
      rw [Array.mapM_eq_mapM_toList]
      simp only [Sem.run_map, m1, Result.andThen_ok]
    have hres : results fn a.tmps = (do let vs ← fn.results.mapM (resSem a); pure (if h : vs.size = 1 then vs[0] else .tuple vs) : Sem Value) := by
      unfold results
      congr 1
    rw [hres, Sem.run_bind, hm]
    simp only [Result.andThen_ok, Sem.run_pure]
    have hul := m2.length
    by_cases h1 : us.toArray.size = 1
    · rw [dif_pos h1]
      have hus : us.length = 1 := by simpa using h1
      match us, l, hus, hul, m2 with
      | [u], [x], _, _, m2 =>
        obtain ⟨v, hv, hrv⟩ := m2.single
        simp only [List.cons.injEq, and_true] at hv
        subst hv
        exact ⟨u, rfl, hrv⟩
    · rw [dif_neg h1]
      refine ⟨_, rfl, ?_⟩
      have hus : us.length ≠ 1 := by simpa using h1
      have : tupOf l = .tup l := by
        match l, hul with
        | [], _ => rfl
        | [x], hul => exact absurd (by rw [← hul]; rfl) hus
        | x :: y :: l, _ => rfl
      rw [this]
      exact .tup l us m2
  obtain ⟨v, hv1, hv2⟩ := hrun
  have hpost : a.defers = [] ∧ ∃ v, (results fn a.tmps).run P w' = .ok v w' ∧ ∃ (v' : Value) (s1 : FS) (l : List FV) (F' : Nat → Prop) (m' : Loc → Nat × Nat) (a : Act), Ending.returned v = .returned v' ∧ R s1 l ∧ (∀ y, F y → F' y) ∧
      (∀ y, F' y → F y ∨ w.heap.size ≤ y) ∧ RelX ⟨w, F, H, m⟩ F' m' s1 a w' ∧ RF w' F' (fun l => s1.H l ≠ none) m' (tupOf l) v' :=
    ⟨hR.df, v, hv1, v, s1, l, F', m', a, rfl, hR0, k1.up, k2, hR, hv2⟩
  rcases he with rfl | rfl
  · exact hpost
  · exact hpost
/-- a function's run: what stands at its end -/
theorem fn_run {P : Program} {f : FuncId} {fn : Func} {code : Code} {c : Cfg} {nv : Nat} {args : List FV} {H : Heap} {R : FS → List FV → Prop} (hf : P.funcs[f]? = some fn) (hb : fn.body = some code) (hN : c.N = fn.ntmps)
    (hargs : args.length ≤ nv) (hnv : nv ≤ fn.ntmps) (h : wCode P c code (fun e s => (e = .normal ∨ e = .ret) ∧ ∃ s1, Wk s1 s ∧ ∃ l, resL P s1 fn.results.toList = some l ∧ R s1 l) (FS.init nv args H))
    (hL : ∀ l, H l ≠ none → c.L l) (w : World) (F : Nat → Prop) (m : Loc → Nat × Nat) (vs : List Value) (hF : ∀ y, F y → y < w.heap.size) (hG : GlobOk c.G F w) (hv : RFs w F (fun l => H l ≠ none) m args vs) (hH : HeapR w F m H) :
    Calls P f vs.toArray w fun e w' => ∃ (v : Value) (s1 : FS) (l : List FV) (F' : Nat → Prop) (m' : Loc → Nat × Nat) (a : Act), e = .returned v ∧ R s1 l ∧ (∀ y, F y → F' y) ∧ (∀ y, F' y → F y ∨ w.heap.size ≤ y) ∧ RelX ⟨w, F, H, m⟩ F' m' s1 a w' ∧
      RF w' F' (fun l => s1.H l ≠ none) m' (tupOf l) v :=
  fn_run_wp hf hb hN hargs hnv (fun X Q' hQ a w hr => wCode_ok code _ _ hQ _ a w hr h) hL w F m vs hF hG hv hH
/-- the end of a function that makes and turns blocks -/
def KEnd (P : Program) (res : List ResultVar) (r : FV) (H' : Heap) (e : Exit) (s : FS) : Prop :=
  (e = .normal ∨ e = .ret) ∧ ∃ s1, Wk s1 s ∧ ∃ l, resL P s1 res = some l ∧ (s1.H = H' ∧ tupOf l = r)
theorem FC_of {P : Program} {f : FuncId} {fn : Func} {code : Code} {c : Cfg} {nv : Nat} {args : List FV} {H : Heap} {r : FV} {H' : Heap} (hf : P.funcs[f]? = some fn) (hb : fn.body = some code) (hN : c.N = fn.ntmps)
    (hargs : args.length ≤ nv) (hnv : nv ≤ fn.ntmps) (hL : ∀ l, H l ≠ none → c.L l) (h : wCode P c code (KEnd P fn.results.toList r H') (FS.init nv args H)) : FC P c.G f args H r H' := by
  intro w F m vs hF hG hv hH
  refine (fn_run hf hb hN hargs hnv h hL w F m vs hF hG hv hH).mono ?_
  rintro e w' ⟨v, s1, l, F', m', a, rfl, ⟨rfl, rfl⟩, k1, k2, hR, hv2⟩
  refine ⟨v, F', m', rfl, k1, fun y hy => ⟨k2 y hy, hR.frz y hy⟩, fun l hl => ⟨hR.mfix l hl, hR.ext l hl⟩, hv2, hR.heap, fun l hl => ?_, hR.size, fun y hy hn => hR.keep y hy fun ⟨l, h1, h2⟩ => hn l h1 h2, hR.os, hR.tape, hR.output⟩
  rcases hR.own l hl with ⟨k, h1, h2⟩ | h1
  · exact .inl ⟨k, h1, h2⟩
  · exact .inr h1
end Go.FM
namespace Go.FM
open Go

/-! ### trees keyed by numbers of d bits, the highest bit first -/
inductive T (α : Type) where
  | nil
  | lf (v : α)
  | nd (l r : T α)
namespace T
variable {α : Type}
def get : Nat → T α → Nat → Option α
  | 0, .lf v, _ => some v
  | d + 1, .nd l r, k => if k < 2 ^ d then get d l k else get d r (k - 2 ^ d)
  | _, _, _ => none
def set : Nat → T α → Nat → α → T α
  | 0, _, _, v => .lf v
  | d + 1, .nd l r, k, v => if k < 2 ^ d then .nd (set d l k v) r else .nd l (set d r (k - 2 ^ d) v)
  | d + 1, _, k, v => if k < 2 ^ d then .nd (set d .nil k v) .nil else .nd .nil (set d .nil (k - 2 ^ d) v)
def left : T α → T α
  | .nd l _ => l
  | _ => .nil
def right : T α → T α
  | .nd _ r => r
  | _ => .nil
/-- keys under 'lo' from the first, the others from the second -/
def join : Nat → T α → T α → Nat → T α
  | 0, a, b, lo => if lo = 0 then b else a
  | d + 1, a, b, lo => if lo < 2 ^ d then .nd (join d a.left b.left lo) b.right else .nd a.left (join d a.right b.right (lo - 2 ^ d))
/-- no key at or over 'lo' on -/
def under : Nat → T α → Nat → Bool
  | _, .nil, _ => true
  | 0, .lf _, lo => decide (0 < lo)
  | 0, .nd _ _, _ => true
  | d + 1, .nd l r, lo => if lo < 2 ^ d then under d l lo && (match r with | .nil => true | _ => false) else under d r (lo - 2 ^ d)
  | _ + 1, .lf _, _ => true
/-- what stands at keys from 'lo' on -/
def allFrom (p : α → Bool) : Nat → T α → Nat → Bool
  | _, .nil, _ => true
  | 0, .lf v, lo => decide (0 < lo) || p v
  | 0, .nd _ _, _ => true
  | d + 1, .nd l r, lo => if lo < 2 ^ d then allFrom p d l lo && allFrom p d r 0 else allFrom p d r (lo - 2 ^ d)
  | _ + 1, .lf _, _ => true
theorem get_nil (d k : Nat) : get d (.nil : T α) k = none := by cases d <;> rfl
theorem get_lf (d k : Nat) (v : α) : get (d + 1) (.lf v) k = none := rfl
theorem get_set : ∀ (d : Nat) (t : T α) (k j : Nat) (v : α), k < 2 ^ d → j < 2 ^ d → get d (set d t k v) j = if j = k then some v else get d t j
  | 0, t, k, j, v, hk, hj => by
    have : j = k := by simp at hk hj; omega
    simp [set, get, this]
  | d + 1, t, k, j, v, hk, hj => by
    rw [Nat.pow_succ] at hk hj
    have key : ∀ l r : T α, get (d + 1) (if k < 2 ^ d then .nd (set d l k v) r else .nd l (set d r (k - 2 ^ d) v)) j = if j = k then some v else get (d + 1) (.nd l r) j := by
      intro l r
      by_cases h1 : k < 2 ^ d
      · rw [if_pos h1]
        simp only [get]
        by_cases h2 : j < 2 ^ d
        · simp only [h2, if_true]
          rw [get_set d l k j v h1 h2]
        · have : j ≠ k := by omega
          simp only [h2, if_false, this]
      · rw [if_neg h1]
        simp only [get]
        by_cases h2 : j < 2 ^ d
        · have : j ≠ k := by omega
          simp only [h2, if_true, this, if_false]
        · simp only [h2, if_false]
          rw [get_set d r (k - 2 ^ d) (j - 2 ^ d) v (by omega) (by omega)]
          by_cases e : j = k
          · simp [e]
          · have : j - 2 ^ d ≠ k - 2 ^ d := by omega
            simp [e, this]
    cases t with
    | nd l r => exact key l r
    | nil =>
      have := key .nil .nil
      simp only [get, get_nil, ite_self] at this
      simp only [set, get]
      exact this
    | lf u =>
      have := key .nil .nil
      simp only [get, get_nil, ite_self] at this
      simp only [set, get]
      exact this
theorem get_left (d : Nat) (t : T α) (k : Nat) (hk : k < 2 ^ d) : get d t.left k = get (d + 1) t k := by
  cases t <;> simp [left, get, get_nil, hk]
theorem get_right (d : Nat) (t : T α) (k : Nat) : get d t.right k = get (d + 1) t (k + 2 ^ d) := by
  have : ¬ k + 2 ^ d < 2 ^ d := by omega
  cases t <;> simp [right, get, get_nil, this]
theorem get_join : ∀ (d : Nat) (a b : T α) (lo k : Nat), k < 2 ^ d → get d (join d a b lo) k = if k < lo then get d a k else get d b k
  | 0, a, b, lo, k, hk => by
    have : k = 0 := by simpa using hk
    subst this
    unfold join
    by_cases h : lo = 0
    · simp [h]
    · have : 0 < lo := by omega
      simp [h, this]
  | d + 1, a, b, lo, k, hk => by
    rw [Nat.pow_succ] at hk
    unfold join
    by_cases h : lo < 2 ^ d
    · rw [if_pos h]
      simp only [get]
      by_cases h2 : k < 2 ^ d
      · simp only [h2, if_true]
        rw [get_join d _ _ lo k h2, get_left d a k h2, get_left d b k h2]
      · have : ¬ k < lo := by omega
        simp only [h2, if_false, this]
        rw [get_right, show k - 2 ^ d + 2 ^ d = k by omega]
    · rw [if_neg h]
      simp only [get]
      by_cases h2 : k < 2 ^ d
      · have : k < lo := by omega
        simp only [h2, if_true, this]
        exact get_left d a k h2
      · simp only [h2, if_false]
        rw [get_join d _ _ (lo - 2 ^ d) (k - 2 ^ d) (by omega), get_right, get_right, show k - 2 ^ d + 2 ^ d = k by omega]
        by_cases e : k < lo
        · have : k - 2 ^ d < lo - 2 ^ d := by omega
          simp [e, this]
        · have : ¬ k - 2 ^ d < lo - 2 ^ d := by omega
          simp [e, this]
theorem get_under : ∀ (d : Nat) (t : T α) (lo k : Nat), under d t lo = true → lo ≤ k → k < 2 ^ d → get d t k = none
  | d, .nil, lo, k, _, _, _ => get_nil d k
  | 0, .lf v, lo, k, h, h1, h2 => by
    simp [under] at h
    simp at h2
    omega
  | 0, .nd _ _, lo, k, h, h1, h2 => rfl
  | d + 1, .lf _, lo, k, h, h1, h2 => rfl
  | d + 1, .nd l r, lo, k, h, h1, h2 => by
    rw [Nat.pow_succ] at h2
    unfold under at h
    simp only [get]
    split at h
    · rename_i hl
      rw [Bool.and_eq_true] at h
      obtain ⟨h3, h4⟩ := h
      have hr : r = .nil := by cases r <;> first | rfl | (simp at h4)
      by_cases h5 : k < 2 ^ d
      · simp only [h5, if_true]; exact get_under d l lo k h3 h1 h5
      · simp only [h5, if_false, hr]; exact get_nil d _
    · rename_i hl
      have h5 : ¬ k < 2 ^ d := by omega
      simp only [h5, if_false]
      exact get_under d r (lo - 2 ^ d) (k - 2 ^ d) h (by omega) (by omega)
theorem get_allFrom (p : α → Bool) : ∀ (d : Nat) (t : T α) (lo k : Nat) (v : α), allFrom p d t lo = true → lo ≤ k → k < 2 ^ d → get d t k = some v → p v = true
  | d, .nil, lo, k, v, _, _, _, h => by rw [get_nil] at h; cases h
  | 0, .lf u, lo, k, v, h, h1, h2, hg => by
    simp only [get, Option.some.injEq] at hg
    subst hg
    simp [allFrom] at h
    simp at h2
    rcases h with h | h
    · omega
    · exact h
  | 0, .nd _ _, lo, k, v, h, h1, h2, hg => by cases hg
  | d + 1, .lf _, lo, k, v, h, h1, h2, hg => by cases hg
  | d + 1, .nd l r, lo, k, v, h, h1, h2, hg => by
    rw [Nat.pow_succ] at h2
    unfold allFrom at h
    simp only [get] at hg
    split at h
    · rw [Bool.and_eq_true] at h
      split at hg
      · exact get_allFrom p d l lo k v h.1 h1 ‹_› hg
      · exact get_allFrom p d r 0 (k - 2 ^ d) v h.2 (Nat.zero_le _) (by omega) hg
    · rename_i hl
      rw [if_neg (by omega)] at hg
      exact get_allFrom p d r (lo - 2 ^ d) (k - 2 ^ d) v h (by omega) (by omega) hg
/-! the same, as the kernel likes it -/
noncomputable def getF (t : T α) : Nat → Nat → Option α :=
  T.rec (motive := fun _ => Nat → Nat → Option α) (fun _ _ => none) (fun v d _ => Nat.rec (motive := fun _ => Option α) (some v) (fun _ _ => none) d)
    (fun _ _ ihl ihr d k => Nat.rec (motive := fun _ => Option α) none (fun d' _ => Bool.rec (motive := fun _ => Option α) (ihr d' (k - 2 ^ d')) (ihl d' k) (Nat.ble (k + 1) (2 ^ d'))) d) t
theorem ble_lt (k n : Nat) : Nat.ble (k + 1) n = decide (k < n) := by
  cases h : Nat.ble (k + 1) n
  · have : ¬ k < n := fun h' => by rw [Nat.ble_eq_true_of_le h'] at h; cases h
    simp [this]
  · have := Nat.le_of_ble_eq_true h
    simp; omega
theorem getF_eq (t : T α) : ∀ (d k : Nat), getF t d k = get d t k := by
  induction t with
  | nil => intro d k; rw [get_nil]; rfl
  | lf v => intro d k; cases d <;> rfl
  | nd l r ihl ihr =>
    intro d k
    cases d with
    | zero => rfl
    | succ d =>
      show Bool.rec (motive := fun _ => Option α) (getF r d (k - 2 ^ d)) (getF l d k) (Nat.ble (k + 1) (2 ^ d)) = _
      rw [ble_lt, ihl, ihr]
      simp only [get]
      by_cases h : k < 2 ^ d <;> simp [h]
noncomputable def mkF (v : α) (d : Nat) : Nat → T α :=
  Nat.rec (motive := fun _ => Nat → T α) (fun _ => .lf v) (fun d' ih k => Bool.rec (motive := fun _ => T α) (.nd .nil (ih (k - 2 ^ d'))) (.nd (ih k) .nil) (Nat.ble (k + 1) (2 ^ d'))) d
theorem set_lf (d k : Nat) (u v : α) : set d (.lf u) k v = set d .nil k v := by cases d <;> rfl
theorem mkF_eq (v : α) : ∀ (d k : Nat), mkF v d k = set d .nil k v
  | 0, k => rfl
  | d + 1, k => by
    show Bool.rec (motive := fun _ => T α) (.nd .nil (mkF v d (k - 2 ^ d))) (.nd (mkF v d k) .nil) (Nat.ble (k + 1) (2 ^ d)) = _
    rw [ble_lt, mkF_eq v d, mkF_eq v d]
    simp only [set]
    by_cases h : k < 2 ^ d <;> simp [h]
noncomputable def setF (t : T α) (v : α) : Nat → Nat → T α :=
  T.rec (motive := fun _ => Nat → Nat → T α) (fun d k => mkF v d k) (fun _ d k => mkF v d k)
    (fun l r ihl ihr d k => Nat.rec (motive := fun _ => T α) (.lf v) (fun d' _ => Bool.rec (motive := fun _ => T α) (.nd l (ihr d' (k - 2 ^ d'))) (.nd (ihl d' k) r) (Nat.ble (k + 1) (2 ^ d'))) d) t
theorem setF_eq (t : T α) (v : α) : ∀ (d k : Nat), setF t v d k = set d t k v := by
  induction t with
  | nil => intro d k; exact mkF_eq v d k
  | lf u => intro d k; rw [set_lf]; exact mkF_eq v d k
  | nd l r ihl ihr =>
    intro d k
    cases d with
    | zero => rfl
    | succ d =>
      show Bool.rec (motive := fun _ => T α) (.nd l (setF r v d (k - 2 ^ d))) (.nd (setF l v d k) r) (Nat.ble (k + 1) (2 ^ d)) = _
      rw [ble_lt, ihl, ihr]
      simp only [set]
      by_cases h : k < 2 ^ d <;> simp [h]
end T
end Go.FM
namespace Go.FM
open Go

/-! ### a closed run -/
abbrev Hp := T FO
abbrev hpD : Nat := 17
noncomputable def toH (h : Hp) : Heap := fun l => match l with
  | [k] => bif Nat.ble (k + 1) (2 ^ hpD) then h.getF hpD k else none
  | _ => none
/-- slots, as a tree of depth d; blocks; the next name -/
structure XS where
  d : Nat
  sl : T FV
  hp : Hp
  n : Nat
noncomputable def XS.get (s : XS) (t : Nat) : FV := bif Nat.ble (t + 1) (2 ^ s.d) then (match s.sl.getF s.d t with
  | some v => v
  | none => .undef) else .undef
noncomputable def xrv (s : XS) : Operand → FV
  | .tmp t => s.get t
  | .const c => cv c
  | .func f => .clo f [] []
  | .global _ => .undef
def calleeR (ρ : Operand → FV) (o : Oper) : Option (FuncId × List FV) := match o.op with
  | .call { callee := .value x, args, argTypes := _ } => match ρ x with
    | .clo f first caps => some (f, first ++ args.toList.map ρ ++ caps)
    | _ => none
  | _ => none
def guardR (ops : Array Oper) (o : Oper) (get : Nat → FV) : Option Bool := match o.guard with
  | none => some true
  | some (j, want) => match (ops[j]?).bind (·.dst) with
    | some d => match get d with
      | .bool b => some (b == want)
      | .tup [] => some false
      | _ => none
    | none => none
noncomputable def xPut (N : Nat) (o : Oper) (x : FV) (s : XS) : Option XS := match o.dst with
  | none => some s
  | some k => bif Nat.ble (k + 1) N then (bif Nat.ble (k + 1) (2 ^ s.d) then some ⟨s.d, s.sl.setF x s.d k, s.hp, s.n⟩ else none) else none
noncomputable def xUps (lo : Nat) : List (Loc × FO) → Hp → Option Hp
  | [], h => some h
  | (l, o) :: us, h => match l with
    | [k] => bif Nat.ble lo k then (bif Nat.ble (k + 1) (2 ^ hpD) then xUps lo us (h.setF o hpD k) else none) else none
    | _ => none
/-- what an operation does -/
inductive XR where
  | val (us : List (Loc × FO)) (v : FV)
  | call (f : FuncId) (A : List FV)
  | bad
def XR.of : Option (List (Loc × FO) × FV) → XR
  | some (us, v) => .val us v
  | none => .bad
def XR.ofV : Option FV → XR
  | some v => .val [] v
  | none => .bad
def xDo (P : Program) (H : Heap) (nm : Loc) (ρ : Operand → FV) (o : Oper) : XR := match o.op with
  | .move x => .val [] (ρ x)
  | .assign x => .val [] (ρ x)
  | .load t x => .ofV (fLoad P H t (ρ x))
  | .fieldAddr st x f => .ofV (fField P st (ρ x) f)
  | .indexAddr t x i => .ofV (fIndex P t (ρ x) (ρ i))
  | .store t ad x => .of (wStore P H t (ρ ad) (ρ x))
  | .binOp op t x y _ => match fBin P op t (ρ x) (ρ y) with
    | some r => .val [] r
    | none => .of (wv P H nm ρ o)
  | .nilCheck x => .ofV (fNil (ρ x))
  | .pick x y z => match ρ x with
    | .bool true => .val [] (ρ y)
    | .bool false => .val [] (ρ z)
    | _ => .bad
  | .extract x i => match ρ x with
    | .tup cs => .ofV cs[i]?
    | _ => .bad
  | .call { callee := .value x, args, argTypes := _ } => match ρ x with
    | .clo f first caps => .call f (first ++ args.toList.map ρ ++ caps)
    | _ => .bad
  | _ => .of (wv P H nm ρ o)
/-- the slots whose operations may take a name -/
def allocs (o : Oper) : Bool := match o.op with
  | .alloc _ | .box .. | .buildSlice .. | .makeSlice .. | .makeMap .. | .range .. => true
  | .call { callee := .builtin .append, args := _, argTypes := _ } => true
  | _ => false
def allocD (ops : Array Oper) : List Nat := (ops.toList.filter allocs).filterMap (·.dst)
def pos (d : Nat) : List Nat → Nat
  | [] => 0
  | x :: r => if x = d then 0 else pos d r + 1
def nmX (d : Nat) (ix : List Nat) : Loc := match ix with
  | [] => [0]
  | b :: r => [b + pos d r]
abbrev XC := Nat → FuncId → List FV → Hp → Nat → Option (FV × Hp × Nat)

section
variable (P : Program) (call : XC) (N : Nat)

noncomputable def xStep (lo : Nat) (ix : List Nat) (o : Oper) (s : XS) : Option XS := match xDo P (toH s.hp) (nmX (o.dst.getD 0) ix) (xrv s) o with
  | .val us v => match xUps lo us s.hp with
    | some hp' => xPut N o v ⟨s.d, s.sl, hp', s.n⟩
    | none => none
  | .call f A => bif fnOk P f then (match call lo f A s.hp s.n with
    | some (r, hp', n') => xPut N o r ⟨s.d, s.sl, hp', n'⟩
    | none => none) else none
  | .bad => none
noncomputable def xOps (lo : Nat) (ix : List Nat) (ops : Array Oper) : List Oper → XS → Option XS
  | [], s => some s
  | o :: rest, s => match guardR ops o s.get with
    | some true => match xStep P call N lo ix o s with
      | some s' => xOps lo ix ops rest s'
      | none => none
    | some false => match xPut N o (.tup []) s with
      | some s' => xOps lo ix ops rest s'
      | none => none
    | none => none

/-! a region that draws its order -/
mutual
def nB (U : Loc → Bool) : FV → Bool
  | .ptr l .. => U l
  | .sl l .. => U l
  | .mp l => U l
  | .list _ xs => nBss U xs
  | .ref cs => nBs U cs
  | .agg cs => nBs U cs
  | .tup cs => nBs U cs
  | .clo _ a b => nBs U a && nBs U b
  | _ => true
def nBs (U : Loc → Bool) : List FV → Bool
  | [] => true
  | x :: xs => nB U x && nBs U xs
def nBss (U : Loc → Bool) : List (List FV) → Bool
  | [] => true
  | x :: xs => nBs U x && nBss U xs
end
def nBm (U : Loc → Bool) : List (FV × FV × Nat) → Bool
  | [] => true
  | e :: es => (nB U e.1 && nB U e.2.1) && nBm U es
def onB (U : Loc → Bool) : FO → Bool
  | .cells _ _ xs => nBss U xs
  | .map es _ => nBm U es
  | .iter x _ _ _ => nB U x
  | .dead => true
/-- what a head made: as a heap; put into a heap; and whether it leads to these names alone -/
structure HA where
  A : Heap
  add : Hp → Hp
  ok : (Loc → Bool) → Bool
/-- the heads that an operation waits for, and what they made -/
def needH (H0 : Heap) (o : Oper) : Nat → List HA → Heap
  | _, [], l => H0 l
  | j, A :: As, l => if waitsB o j then (match A.A l with
    | some ob => some ob
    | none => needH H0 o (j + 1) As l) else needH H0 o (j + 1) As l
def needT (o : Oper) : Nat → List HA → Hp → Hp
  | _, [], h => h
  | j, A :: As, h => if waitsB o j then needT o (j + 1) As (A.add h) else needT o (j + 1) As h
def needOk (o : Oper) (U : Loc → Bool) : Nat → List HA → Bool
  | _, [] => true
  | j, A :: As => if waitsB o j then A.ok U && needOk o U (j + 1) As else needOk o U (j + 1) As
noncomputable def fromK (lo : Nat) (h : Hp) : Heap := fun l => match l with
  | [k] => bif Nat.ble lo k then (bif Nat.ble (k + 1) (2 ^ hpD) then h.getF hpD k else none) else none
  | _ => none
noncomputable def freshU (h : Hp) : List (Loc × FO) → Bool
  | [] => true
  | u :: us => (toH h u.1).isNone && freshU h us
noncomputable def putU : List (Loc × FO) → Hp → Hp
  | [], h => h
  | (l, o) :: us, h => match l with
    | [k] => putU us (h.setF o hpD k)
    | _ => putU us h
noncomputable def haU (us : List (Loc × FO)) : HA := ⟨upds noH us, putU us, fun U => us.all fun u => onB U u.2⟩
noncomputable def haC (lo : Nat) (hp' : Hp) : HA := ⟨fromK lo hp', fun h => bif h.under hpD lo then h.join hpD hp' lo else h, fun U => hp'.allFrom (onB U) hpD lo⟩
noncomputable def xHead (lo : Nat) (ix : List Nat) (h0 : Hp) (As : List HA) (o : Oper) (s : XS) : Option (XS × HA) := match xDo P (needH (toH h0) o 0 As) (nmX (o.dst.getD 0) ix) (xrv s) o with
  | .val us v => bif freshU s.hp us then (match xUps lo us s.hp with
    | some hp' => match xPut N o v ⟨s.d, s.sl, hp', s.n⟩ with
      | some s' => some (s', haU us)
      | none => none
    | none => none) else none
  | .call f A => let hn := needT o 0 As h0
    let U := fun l => (toH hn l).isSome
    bif fnOk P f && ((nBs U A && needOk o U 0 As) && ((hn.under hpD s.n && s.hp.under hpD s.n) && Nat.ble lo s.n)) then (match call s.n f A hn s.n with
    | some (r, hp', n') => match xPut N o r ⟨s.d, s.sl, s.hp.join hpD hp' s.n, n'⟩ with
      | some s' => some (s', haC s.n hp')
      | none => none
    | none => none) else none
  | .bad => none
noncomputable def xHeads (lo : Nat) (ix : List Nat) (ops : Array Oper) (n : Nat) (h0 : Hp) : Nat → List Oper → XS → List HA → Option XS
  | _, [], s, _ => some s
  | k, o :: rest, s, As => bif Nat.ble (k + 1) n then (bif depsB ops n k o && o.dst.isSome then (match guardR ops o s.get with
    | some true => match xHead P call N lo ix h0 As o s with
      | some (s', A) => xHeads lo ix ops n h0 (k + 1) rest s' (As ++ [A])
      | none => none
    | some false => match xPut N o (.tup []) s with
      | some s' => xHeads lo ix ops n h0 (k + 1) rest s' (As ++ [haU []])
      | none => none
    | none => none) else none) else xOps P call N lo ix ops (o :: rest) s
/-- the least number of heads that may be -/
noncomputable def headN (ops : Array Oper) : Nat → Nat → Option Nat
  | 0, _ => none
  | f + 1, n => if drawB ops n then some n else headN ops f (n + 1)
noncomputable def xDraw (lo : Nat) (ix : List Nat) (ops : Array Oper) (s : XS) : Option XS := match headN ops (ops.size + 1) 0 with
  | some n => xHeads P call N lo ix ops n s.hp 0 ops.toList s []
  | none => none

noncomputable def condR (s : XS) : Operand → Option Bool
  | .tmp t => match s.get t with
    | .bool b => some b
    | _ => none
  | .const (.bool b) => some b
  | _ => none
def xIter (step : XS → Option (Exit × XS)) : Nat → XS → Option (Exit × XS)
  | 0, _ => none
  | k + 1, s => match step s with
    | some (.normal, s') => xIter step k s'
    | r => r
noncomputable def XS.enter (s : XS) (ops : Array Oper) : XS := ⟨s.d, s.sl, s.hp, s.n + (allocD ops).length + 1⟩
noncomputable def xCode (LF lo : Nat) : Code → XS → Option (Exit × XS)
  | .skip, s => some (.normal, s)
  | .label _, s => some (.normal, s)
  | .region _ ops false, s => match xOps P call N lo (s.n :: allocD ops) ops ops.toList (s.enter ops) with
    | some s' => some (.normal, s')
    | none => none
  | .region _ ops true, s => if P.follows .mixedOrders then (match xDraw P call N lo (s.n :: allocD ops) ops (s.enter ops) with
    | some s' => some (.normal, s')
    | none => none) else none
  | .seq x y, s => match xCode LF lo x s with
    | some (.normal, s') => xCode LF lo y s'
    | r => r
  | .cond x t e, s => match condR s x with
    | some true => xCode LF lo t s
    | some false => xCode LF lo e s
    | none => none
  | .block id b, s => match xCode LF lo b s with
    | some (.exit i, s') => if i = id then some (.normal, s') else some (.exit i, s')
    | r => r
  | .loop b, s => xIter (xCode LF lo b) LF s
  | .exit id, s => some (.exit id, s)
  | .ret, s => some (.ret, s)
  | _, _ => none
end

noncomputable def initS (d : Nat) : List FV → Nat → T FV → T FV
  | [], _, t => t
  | x :: xs, k, t => initS d xs (k + 1) (t.setF x d k)
noncomputable def xRes (P : Program) (s : XS) : List ResultVar → Option (List FV)
  | [] => some []
  | .tmp t :: r => match xRes P s r with
    | some l => some (s.get t :: l)
    | none => none
  | .cell t ty :: r => match fLoad P (toH s.hp) ty (s.get t), xRes P s r with
    | some v, some l => some (v :: l)
    | _, _ => none
abbrev Orc := FuncId → List FV → Hp → Nat → Option (FV × Hp × Nat)
def dOf (N : Nat) : Nat := bif Nat.ble N 16 then 4 else bif Nat.ble N 64 then 6 else 9
noncomputable def xCall (P : Program) (orc : Orc) (LF : Nat) : Nat → XC
  | 0, _, _, _, _, _ => none
  | k + 1, lo, f, A, hp, n => match orc f A hp n with
    | some (r, hp', n') => bif Nat.ble lo n then some (r, hp', n') else none
    | none => match P.funcs[f]? with
      | some fn => match fn.body with
        | some code => bif Nat.ble A.length fn.ntmps then (bif Nat.ble fn.ntmps (2 ^ dOf fn.ntmps) then (match xCode P (xCall P orc LF k) fn.ntmps LF lo code ⟨dOf fn.ntmps, initS (dOf fn.ntmps) A 0 .nil, hp, n⟩ with
          | some (.normal, s') => match xRes P s' fn.results.toList with
            | some l => some (tupOf l, s'.hp, s'.n)
            | none => none
          | some (.ret, s') => match xRes P s' fn.results.toList with
            | some l => some (tupOf l, s'.hp, s'.n)
            | none => none
          | _ => none) else none) else none
        | none => none
      | none => none
end Go.FM
namespace Go.FM
open Go

/-! ### names -/
abbrev isS (H : Heap) : Loc → Bool := fun l => (H l).isSome
theorem nBs_all (U : Loc → Bool) (l : List FV) : nBs U l = l.all (nB U) := by
  induction l with
  | nil => rfl
  | cons x l ih => simp [nBs, ih]
theorem nBss_flatten (U : Loc → Bool) (l : List (List FV)) : nBss U l = nBs U l.flatten := by
  induction l with
  | nil => rfl
  | cons x l ih => simp only [nBss, ih, List.flatten_cons, nBs_all, List.all_append]
section
variable {P : Program} {w w' : World} {F F' : Nat → Prop} {U U' : Loc → Prop} {m m' : Loc → Nat × Nat} {B : Loc → Bool}
mutual
theorem RF.names {x : FV} {v : Value} (h : RF w F U m x v) (hB : ∀ l, U l → B l = true) : nB B x = true :=
  match h with
  | .ptr l _ _ _ hu => hB l hu
  | .sl l _ _ _ _ _ hu _ _ _ => hB l hu
  | .sl0 l _ _ _ hu _ => hB l hu
  | .mp l hu => hB l hu
  | .list sz xs A cap vs hl hc hm h => by rw [nB, nBss_flatten]; exact RFs.names h hB
  | .ref cs a vs hF hm h => RFs.names h hB
  | .agg cs vs h => RFs.names h hB
  | .tup cs vs h => RFs.names h hB
  | .clo f a b us vs h1 h2 => by rw [nB, RFs.names h1 hB, RFs.names h2 hB]; rfl
  | .undef _ => rfl
  | .int _ _ => rfl
  | .bool _ => rfl
  | .str _ => rfl
  | .nilp => rfl
  | .nils => rfl
  | .nilm => rfl
  | .nilf => rfl
  | .emp _ => rfl
theorem RFs.names {xs : List FV} {vs : List Value} (h : RFs w F U m xs vs) (hB : ∀ l, U l → B l = true) : nBs B xs = true :=
  match h with
  | .nil => rfl
  | .cons a v as vs h hs => by rw [nBs, RF.names h hB, RFs.names hs hB]; rfl
end
mutual
theorem RF.cutU {x : FV} {v : Value} (h : RF w F U m x v) (hx : nB B x = true) (hB : ∀ l, B l = true → U' l) : RF w F U' m x v :=
  match h with
  | .ptr l sz i off hu => .ptr l sz i off (hB l hx)
  | .sl l sz off len cap o hu hc ho hs => .sl l sz off len cap o (hB l hx) hc ho hs
  | .sl0 l sz off A hu h0 => .sl0 l sz off A (hB l hx) h0
  | .mp l hu => .mp l (hB l hx)
  | .list sz xs A cap vs hl hc hm h => .list sz xs A cap vs hl hc hm (RFs.cutU h (by rw [nB, nBss_flatten] at hx; exact hx) hB)
  | .ref cs a vs hF hm h => .ref cs a vs hF hm (RFs.cutU h hx hB)
  | .agg cs vs h => .agg cs vs (RFs.cutU h hx hB)
  | .tup cs vs h => .tup cs vs (RFs.cutU h hx hB)
  | .clo f a b us vs h1 h2 => .clo f a b us vs (RFs.cutU h1 (by rw [nB, Bool.and_eq_true] at hx; exact hx.1) hB) (RFs.cutU h2 (by rw [nB, Bool.and_eq_true] at hx; exact hx.2) hB)
  | .undef v => .undef v
  | .int k n => .int k n
  | .bool b => .bool b
  | .str s => .str s
  | .nilp => .nilp
  | .nils => .nils
  | .nilm => .nilm
  | .nilf => .nilf
  | .emp A => .emp A
theorem RFs.cutU {xs : List FV} {vs : List Value} (h : RFs w F U m xs vs) (hx : nBs B xs = true) (hB : ∀ l, B l = true → U' l) : RFs w F U' m xs vs :=
  match h with
  | .nil => .nil
  | .cons a v as vs h hs => .cons a v as vs (RF.cutU h (by rw [nBs, Bool.and_eq_true] at hx; exact hx.1) hB) (RFs.cutU hs (by rw [nBs, Bool.and_eq_true] at hx; exact hx.2) hB)
end
mutual
theorem nB_mono {B B' : Loc → Bool} (h : ∀ l, B l = true → B' l = true) : ∀ x : FV, nB B x = true → nB B' x = true
  | .ptr l _ _ _, hx => h l hx
  | .sl l _ _ _, hx => h l hx
  | .mp l, hx => h l hx
  | .list _ xs, hx => nBss_mono h xs hx
  | .ref cs, hx => nBs_mono h cs hx
  | .agg cs, hx => nBs_mono h cs hx
  | .tup cs, hx => nBs_mono h cs hx
  | .clo _ a b, hx => by
    rw [nB, Bool.and_eq_true] at hx ⊢
    exact ⟨nBs_mono h a hx.1, nBs_mono h b hx.2⟩
  | .undef, _ => rfl
  | .int _ _, _ => rfl
  | .bool _, _ => rfl
  | .str _, _ => rfl
  | .nilp, _ => rfl
  | .nils, _ => rfl
  | .nilm, _ => rfl
  | .nilf, _ => rfl
  | .emp, _ => rfl
theorem nBs_mono {B B' : Loc → Bool} (h : ∀ l, B l = true → B' l = true) : ∀ xs : List FV, nBs B xs = true → nBs B' xs = true
  | [], _ => rfl
  | x :: xs, hx => by
    rw [nBs, Bool.and_eq_true] at hx ⊢
    exact ⟨nB_mono h x hx.1, nBs_mono h xs hx.2⟩
theorem nBss_mono {B B' : Loc → Bool} (h : ∀ l, B l = true → B' l = true) : ∀ xs : List (List FV), nBss B xs = true → nBss B' xs = true
  | [], _ => rfl
  | x :: xs, hx => by
    rw [nBss, Bool.and_eq_true] at hx ⊢
    exact ⟨nBs_mono h x hx.1, nBss_mono h xs hx.2⟩
end
theorem nBm_mono {B B' : Loc → Bool} (h : ∀ l, B l = true → B' l = true) : ∀ es : List (FV × FV × Nat), nBm B es = true → nBm B' es = true
  | [], _ => rfl
  | e :: es, hx => by
    rw [nBm, Bool.and_eq_true, Bool.and_eq_true] at hx ⊢
    exact ⟨⟨nB_mono h _ hx.1.1, nB_mono h _ hx.1.2⟩, nBm_mono h es hx.2⟩
theorem onB_mono {B B' : Loc → Bool} (h : ∀ l, B l = true → B' l = true) : ∀ o : FO, onB B o = true → onB B' o = true
  | .cells _ _ xs, hx => nBss_mono h xs hx
  | .map es _, hx => nBm_mono h es hx
  | .iter x _ _ _, hx => nB_mono h x hx
  | .dead, _ => rfl
theorem REs.names {es : List (FV × FV × Nat)} {xs : List MapEntry} (h : REs w F U m es xs) (hB : ∀ l, U l → B l = true) : nBm B es = true := by
  induction h with
  | nil => rfl
  | cons e x es xs h hs ih => rw [nBm, h.key.names hB, h.val.names hB, ih]; rfl
theorem REs.cutU {es : List (FV × FV × Nat)} {xs : List MapEntry} (h : REs w F U m es xs) (hx : nBm B es = true) (hB : ∀ l, B l = true → U' l) : REs w F U' m es xs := by
  induction h with
  | nil => exact .nil
  | cons e x es xs h hs ih =>
    rw [nBm, Bool.and_eq_true, Bool.and_eq_true] at hx
    exact .cons _ _ _ _ ⟨h.key.cutU hx.1.1 hB, h.val.cutU hx.1.2 hB, h.born⟩ (ih hx.2)
theorem OR.names {H : Heap} {l : Loc} {o : FO} (h : OR w F H m l o) : onB (isS H) o = true := by
  have hB : ∀ l, H l ≠ none → isS H l = true := fun l hl => by simpa [isS, Option.isSome_iff_ne_none] using hl
  cases o with
  | cells T sz xs =>
    rcases h with ⟨rfl, _⟩ | ⟨_, c, _, _, _, _, h5⟩
    · rfl
    · rw [onB, nBss_flatten]; exact h5.names hB
  | map es clk =>
    obtain ⟨_, a, _, h2⟩ := h
    exact h2.names hB
  | iter x since seen last =>
    obtain ⟨_, q, h1, _⟩ := h
    exact h1.names hB
  | dead => rfl
theorem OR.cutH {H H' : Heap} {l : Loc} {o : FO} (h : OR w F H m l o) (ho : onB (isS H') o = true) : OR w F H' m l o := by
  have hB : ∀ l, isS H' l = true → H' l ≠ none := fun l hl => by simpa [isS, Option.isSome_iff_ne_none] using hl
  cases o with
  | cells T sz xs =>
    rcases h with h | ⟨h0, c, h1, h2, h3, h4, h5⟩
    · exact .inl h
    · exact .inr ⟨h0, c, h1, h2, h3, h4, h5.cutU (by rw [← nBss_flatten]; exact ho) hB⟩
  | map es clk =>
    obtain ⟨h0, a, h1, h2⟩ := h
    exact ⟨h0, a, h1, h2.cutU ho hB⟩
  | iter x since seen last =>
    obtain ⟨h0, q, h1, h2⟩ := h
    exact ⟨h0, q, h1.cutU ho hB, h2⟩
  | dead => trivial
def Closed (H : Heap) : Prop := ∀ l o, H l = some o → onB (isS H) o = true
theorem HeapR.closed {H : Heap} (h : HeapR w F m H) : Closed H := fun l o ho => (h.obj l o ho).names


/-- what a function does over some blocks it does over more blocks, as long as these are enough and lead to themselves alone -/
theorem FC.frame {G : List (Nat × List Value)} {f : FuncId} {A : List FV} {Hn An : Heap} {r : FV} (h : FC P G f A Hn r (ext Hn An)) (hcl : Closed Hn) (hA : nBs (isS Hn) A = true) {H2 : Heap} (hs : HSub Hn H2) (hf : ∀ l, An l ≠ none → H2 l = none) :
    FC P G f A H2 r (ext H2 An) := by
  classical
  intro w F m vs hF hG hv hH
  have hB : ∀ l, isS Hn l = true → Hn l ≠ none := fun l hl => by simpa [isS, Option.isSome_iff_ne_none] using hl
  have live : ∀ l, Live Hn m l → Live H2 m l := fun l ⟨o, h1, h2, h3⟩ => ⟨o, hs l o h1, h2, h3⟩
  have hRn : HeapR w F m Hn := ⟨fun l o ho => (hH.obj l o (hs l o ho)).cutH (hcl l o ho), fun l l' hl hl' e => hH.inj l l' (live l hl) (live l' hl') e, fun l hl => hH.old l (live l hl)⟩
  refine (h w F m vs hF hG (hv.cutU hA hB) hRn).mono ?_
  rintro e w' ⟨v, F', m', rfl, k1, k2, k3, k4, k5, k6, k7, k8, k9, k10, k11⟩
  let m2 : Loc → Nat × Nat := fun l => if Hn l = none ∧ H2 l ≠ none then m l else m' l
  have e1 : ∀ l, ext Hn An l ≠ none → m2 l = m' l := fun l hl => by
    refine if_neg fun ⟨h1, h2⟩ => h2 (hf l fun hA => hl ?_)
    simp [ext, hA, h1]
  have e2 : ∀ l, H2 l ≠ none → m2 l = m l := fun l hl => by
    by_cases h1 : Hn l = none
    · exact if_pos ⟨h1, hl⟩
    · exact (if_neg fun h2 => h1 h2.1).trans (k3 l h1).1
  have hU : ∀ l, ext Hn An l ≠ none → ext H2 An l ≠ none := fun l hl => by
    unfold ext at hl ⊢
    cases hA : An l with
    | some o => simp
    | none =>
      rw [hA] at hl
      obtain ⟨o, ho⟩ := Option.ne_none_iff_exists'.1 hl
      simp [hs l o ho]
  have hU2 : ∀ l, H2 l ≠ none → ext H2 An l ≠ none := fun l hl => by
    unfold ext
    cases An l <;> simp [hl]
  have hFb : ∀ b, F b → w'.heap[b]? = w.heap[b]? := fun b hb => k8 b (hF b hb) fun l hl e => (hRn.old l hl).2 (e ▸ hb)
  -- a name of the whole: one of the function's, or one that it never saw
  have split : ∀ l o, ext H2 An l = some o → ext Hn An l = some o ∨ (H2 l = some o ∧ Hn l = none ∧ An l = none) := fun l o ho => by
    unfold ext at ho ⊢
    cases hA : An l with
    | some o' => rw [hA] at ho; exact .inl ho
    | none =>
      rw [hA] at ho
      cases hn : Hn l with
      | none => exact .inr ⟨ho, rfl, rfl⟩
      | some o' =>
        have := hs l o' hn
        rw [this] at ho
        exact .inl ho
  have far : ∀ l o, H2 l = some o → Hn l = none → o ≠ .dead → (m l).2 ≠ 0 → w'.heap[(m l).1]? = w.heap[(m l).1]? := fun l o ho hn hd h0 =>
    k8 _ (hH.old l ⟨o, ho, hd, h0⟩).1 fun k hk e => by
      have := hH.inj k l (live k hk) ⟨o, ho, hd, h0⟩ e
      subst this
      obtain ⟨o', h1, _⟩ := hk
      rw [hn] at h1; cases h1
  have cls : ∀ l, Live (ext H2 An) m2 l → Live (ext Hn An) m' l ∨ (Live H2 m l ∧ Hn l = none ∧ m2 l = m l) := fun l ⟨o, h1, h2, h3⟩ => by
    rcases split l o h1 with g | ⟨g1, g2, g3⟩
    · exact .inl ⟨o, g, h2, by rw [← e1 l (by rw [g]; simp)]; exact h3⟩
    · exact .inr ⟨⟨o, g1, h2, by rw [← e2 l (by rw [g1]; simp)]; exact h3⟩, g2, e2 l (by rw [g1]; simp)⟩
  have em : ∀ l, Live (ext Hn An) m' l → m2 l = m' l := fun l ⟨o, h1, _⟩ => e1 l (by rw [h1]; simp)
  have apart : ∀ l l', Live (ext Hn An) m' l → Live H2 m l' → Hn l' = none → (m' l).1 ≠ (m l').1 := fun l l' hl hl' hn e => by
    rcases k6 l hl with ⟨k, h1, h2⟩ | h1
    · have := hH.inj k l' (live k h1) hl' (h2.trans e)
      subst this
      obtain ⟨o, g, _⟩ := h1
      rw [hn] at g; cases g
    · have := (hH.old l' hl').1
      omega
  refine ⟨v, F', m2, rfl, k1, k2, fun l hl => ⟨e2 l hl, hU2 l hl⟩, k4.keep (fun _ h => h) (fun _ _ => rfl) hU e1, ⟨fun l o ho => ?_, fun l l' hl hl' e => ?_, fun l hl => ?_⟩, fun l hl => ?_, k7, fun y hy hn => k8 y hy fun l hl => hn l (live l hl), k9, k10, k11⟩
  · rcases split l o ho with g | ⟨g1, g2, g3⟩
    · exact (k5.obj l o g).keep (fun _ h => h) (fun _ _ => rfl) hU e1 (e1 l (by rw [g]; simp)) (fun _ _ => rfl)
    · exact (hH.obj l o g1).keep k1 hFb hU2 e2 (e2 l (by rw [g1]; simp)) (fun hd h0 => far l o g1 g2 hd h0)
  · rcases cls l hl with g | ⟨g1, g2, g3⟩ <;> rcases cls l' hl' with q | ⟨q1, q2, q3⟩
    · rw [em l g, em l' q] at e; exact k5.inj l l' g q e
    · rw [em l g, q3] at e; exact absurd e (apart l l' g q1 q2)
    · rw [g3, em l' q] at e; exact absurd e.symm (apart l' l q g1 g2)
    · rw [g3, q3] at e; exact hH.inj l l' g1 q1 e
  · rcases cls l hl with g | ⟨g1, g2, g3⟩
    · rw [em l g]; exact k5.old l g
    · rw [g3]
      refine ⟨by have := (hH.old l g1).1; omega, fun hF' => ?_⟩
      rcases (k2 _ hF').1 with h1 | h1
      · exact (hH.old l g1).2 h1
      · have := (hH.old l g1).1; omega
  · rcases cls l hl with g | ⟨g1, g2, g3⟩
    · rw [em l g]
      rcases k6 l g with ⟨k, h1, h2⟩ | h1
      · exact .inl ⟨k, live k h1, h2⟩
      · exact .inr h1
    · exact .inl ⟨l, g1, by rw [g3]⟩
end
end Go.FM
namespace Go.FM
open Go

theorem toH_eq (h : Hp) (k : Nat) : toH h [k] = if k < 2 ^ hpD then h.get hpD k else none := by
  show (bif Nat.ble (k + 1) (2 ^ hpD) then h.getF hpD k else none) = _
  rw [T.ble_lt, T.getF_eq]
  by_cases hk : k < 2 ^ hpD <;> simp [hk]
theorem toH_other (h : Hp) (l : Loc) (hl : ∀ k, l ≠ [k]) : toH h l = none := by
  match l with
  | [] => rfl
  | [k] => exact absurd rfl (hl k)
  | _ :: _ :: _ => rfl
theorem loc_cases (l : Loc) : (∃ k, l = [k]) ∨ ∀ k, l ≠ [k] := by
  match l with
  | [] => exact .inr fun k h => by cases h
  | [k] => exact .inl ⟨k, rfl⟩
  | _ :: _ :: _ => exact .inr fun k h => by cases h
theorem toH_setF (h : Hp) (k : Nat) (o : FO) (hk : k < 2 ^ hpD) : toH (h.setF o hpD k) = upd (toH h) [k] o := by
  funext l
  rcases loc_cases l with ⟨j, rfl⟩ | hl
  · rw [toH_eq, T.setF_eq]
    unfold upd
    by_cases hj : j < 2 ^ hpD
    · rw [if_pos hj, T.get_set hpD h k j o hk hj, toH_eq, if_pos hj]
      by_cases e : j = k <;> simp [e]
    · have : j ≠ k := fun e => hj (e ▸ hk)
      rw [if_neg hj, toH_eq, if_neg hj]
      simp [this]
  · rw [toH_other _ l hl]
    unfold upd
    rw [if_neg (hl k), toH_other _ l hl]
theorem xUps_ok {lo : Nat} : ∀ (us : List (Loc × FO)) (h h' : Hp), xUps lo us h = some h' → toH h' = upds (toH h) us ∧ ∀ k, k < lo → toH h' [k] = toH h [k]
  | [], h, h', e => by
    obtain rfl := Option.some.inj e
    exact ⟨rfl, fun _ _ => rfl⟩
  | (l, o) :: us, h, h', e => by
    unfold xUps at e
    split at e
    case h_2 => cases e
    rename_i k
    rw [T.ble_lt] at e
    cases h1 : Nat.ble lo k with
    | false => rw [h1] at e; cases e
    | true =>
      rw [h1] at e
      have h1 := Nat.le_of_ble_eq_true h1
      by_cases h2 : k < 2 ^ hpD
      · simp only [h2, decide_true, cond_true] at e
        obtain ⟨g1, g2⟩ := xUps_ok us _ _ e
        rw [toH_setF h k o h2] at g1 g2
        refine ⟨g1, fun j hj => ?_⟩
        rw [g2 j hj]
        have : [j] ≠ [k] := fun e => by
          have := (List.cons.inj e).1
          omega
        simp only [upd, this, if_false]
      · simp [h2] at e

/-- a run's state and the machine's -/
def Sim (s : XS) (fs : FS) : Prop := (∀ t, fs.get t = s.get t) ∧ fs.H = toH s.hp
theorem XS.get_eq (s : XS) (t : Nat) : s.get t = if t < 2 ^ s.d then (s.sl.get s.d t).getD .undef else .undef := by
  unfold XS.get
  rw [T.ble_lt, T.getF_eq]
  by_cases h : t < 2 ^ s.d
  · simp only [h, decide_true, cond_true, if_true]
    cases s.sl.get s.d t <;> rfl
  · simp [h]
theorem Sim.rv {s : XS} {fs : FS} (h : Sim s fs) : rv fs = xrv s := by
  funext x
  cases x with
  | tmp t => exact h.1 t
  | _ => rfl
theorem Sim.hp {s : XS} {fs : FS} (h : Sim s fs) {hp' : Hp} {n' : Nat} : Sim ⟨s.d, s.sl, hp', n'⟩ { fs with H := toH hp' } := ⟨h.1, rfl⟩
section
variable {P : Program} {c : Cfg} {N : Nat} {o : Oper} {s s' : XS} {fs : FS}
theorem xPut_ok {v : FV} (h : xPut N o v s = some s') (hs : Sim s fs) (hN : c.N = N) : ∃ fs', putD c o v fs = some fs' ∧ Sim s' fs' ∧ fs'.ix = fs.ix ∧ s'.hp = s.hp ∧ s'.n = s.n := by
  unfold xPut at h
  unfold putD
  split at h
  · rename_i hd
    obtain rfl := Option.some.inj h
    exact ⟨fs, by rw [hd], hs, rfl, rfl, rfl⟩
  · rename_i k hd
    rw [T.ble_lt, T.ble_lt] at h
    by_cases h1 : k < N
    · simp only [h1, decide_true, cond_true] at h
      by_cases h2 : k < 2 ^ s.d
      · simp only [h2, decide_true, cond_true, Option.some.injEq] at h
        subst h
        refine ⟨fs.put k v, by rw [hd]; simp only; rw [if_pos (by rw [hN]; exact h1)], ⟨fun t => ?_, by rw [H_put]; exact hs.2⟩, ix_put _ _ _, rfl, rfl⟩
        rw [get_put, XS.get_eq]
        show _ = if t < 2 ^ s.d then ((s.sl.setF v s.d k).get s.d t).getD .undef else .undef
        rw [T.setF_eq]
        by_cases h3 : t < 2 ^ s.d
        · rw [if_pos h3, T.get_set s.d s.sl k t v h2 h3]
          by_cases e : t = k
          · simp [e]
          · simp only [e, if_false]
            rw [hs.1 t, XS.get_eq, if_pos h3]
        · have : t ≠ k := fun e => h3 (e ▸ h2)
          rw [if_neg h3, if_neg this, hs.1 t, XS.get_eq, if_neg h3]
      · simp [h2] at h
    · simp [h1] at h
theorem xDo_val {H : Heap} {nm : Loc} {ρ : Operand → FV} {us : List (Loc × FO)} {v : FV} (h : xDo P H nm ρ o = .val us v) : calleeR ρ o = none ∧ wv P H nm ρ o = some (us, v) := by
  have ofV : ∀ (x : Option FV), XR.ofV x = .val us v → x = some v ∧ us = [] := fun x hx => by
    cases x with
    | none => cases hx
    | some y => simp only [XR.ofV, XR.val.injEq] at hx; exact ⟨by rw [hx.2], hx.1.symm⟩
  have of : ∀ (x : Option (List (Loc × FO) × FV)), XR.of x = .val us v → x = some (us, v) := fun x hx => by
    cases x with
    | none => cases hx
    | some y => obtain ⟨a, b⟩ := y; simp only [XR.of, XR.val.injEq] at hx; rw [hx.1, hx.2]
  unfold xDo at h
  split at h
  · rename_i x ho
    simp only [XR.val.injEq] at h
    obtain ⟨rfl, rfl⟩ := h
    exact ⟨by simp [calleeR, ho], by simp [wv, ho, pv, pv1]⟩
  · rename_i x ho
    simp only [XR.val.injEq] at h
    obtain ⟨rfl, rfl⟩ := h
    exact ⟨by simp [calleeR, ho], by simp [wv, ho, pv, pv1]⟩
  · rename_i t x ho
    obtain ⟨h1, rfl⟩ := ofV _ h
    exact ⟨by simp [calleeR, ho], by simp [wv, ho, pv, pv1, h1]⟩
  · rename_i st x f ho
    obtain ⟨h1, rfl⟩ := ofV _ h
    exact ⟨by simp [calleeR, ho], by simp [wv, ho, pv, pv1, h1]⟩
  · rename_i t x i ho
    obtain ⟨h1, rfl⟩ := ofV _ h
    exact ⟨by simp [calleeR, ho], by simp [wv, ho, pv, pv1, h1]⟩
  · rename_i t ad x ho
    exact ⟨by simp [calleeR, ho], by simp only [wv, ho]; exact of _ h⟩
  · rename_i op t x y ty ho
    split at h
    · rename_i r hr
      simp only [XR.val.injEq] at h
      obtain ⟨rfl, rfl⟩ := h
      exact ⟨by simp [calleeR, ho], by simp [wv, ho, pv, pv1, hr]⟩
    · exact ⟨by simp [calleeR, ho], of _ h⟩
  · rename_i x ho
    obtain ⟨h1, rfl⟩ := ofV _ h
    exact ⟨by simp [calleeR, ho], by simp [wv, ho, pv, pv1, pv2, h1]⟩
  · rename_i x y z ho
    split at h
    · rename_i hb
      simp only [XR.val.injEq] at h
      obtain ⟨rfl, rfl⟩ := h
      exact ⟨by simp [calleeR, ho], by simp [wv, ho, pv, pv1, hb]⟩
    · rename_i hb
      simp only [XR.val.injEq] at h
      obtain ⟨rfl, rfl⟩ := h
      exact ⟨by simp [calleeR, ho], by simp [wv, ho, pv, pv1, hb]⟩
    · cases h
  · rename_i x i ho
    split at h
    · rename_i cs hc
      obtain ⟨h1, rfl⟩ := ofV _ h
      exact ⟨by simp [calleeR, ho], by simp [wv, ho, pv, pv1, hc, h1]⟩
    · cases h
  · split at h <;> cases h
  · rename_i n1 n2 n3 n4 n5 n6 n7 n8 n9 n10 n11
    refine ⟨?_, of _ h⟩
    unfold calleeR
    split
    · rename_i x args ts ho
      exact absurd ho (n11 x args ts)
    · rfl
theorem xDo_call {H : Heap} {nm : Loc} {ρ : Operand → FV} {f : FuncId} {A : List FV} (h : xDo P H nm ρ o = .call f A) : calleeR ρ o = some (f, A) := by
  have ofV : ∀ (x : Option FV), XR.ofV x = .call f A → False := fun x hx => by cases x <;> cases hx
  have of : ∀ (x : Option (List (Loc × FO) × FV)), XR.of x = .call f A → False := fun x hx => by cases x <;> cases hx
  unfold xDo at h
  split at h
  all_goals first
    | (cases h; done)
    | exact (ofV _ h).elim
    | exact (of _ h).elim
    | skip
  · split at h
    · cases h
    · exact (of _ h).elim
  · split at h <;> cases h
  · split at h
    · exact (ofV _ h).elim
    · cases h
  · rename_i x args ts ho
    split at h
    · rename_i g first caps hx
      simp only [XR.call.injEq] at h
      obtain ⟨rfl, rfl⟩ := h
      simp [calleeR, ho, hx]
    · cases h
theorem callee_R (fs : FS) : callee? fs o = calleeR (rv fs) o := rfl
theorem guard_R (ops : Array Oper) (fs : FS) : guardV ops o fs = guardR ops o fs.get := rfl

/-- what a run's calls are -/
def CallOk (P : Program) (G : List (Nat × List Value)) (call : XC) : Prop := ∀ lo f A hp n r hp' n', call lo f A hp n = some (r, hp', n') → FC P G f A (toH hp) r (toH hp') ∧ ∀ k, k < lo → toH hp' [k] = toH hp [k]

variable {call : XC} {lo : Nat} {ix : List Nat} {ops : Array Oper}
theorem xPut_hp {v : FV} (h : xPut N o v s = some s') : s'.hp = s.hp ∧ s'.n = s.n := by
  unfold xPut at h
  split at h
  · obtain rfl := Option.some.inj h; exact ⟨rfl, rfl⟩
  · rename_i k _
    cases h1 : Nat.ble (k + 1) N with
    | false => rw [h1] at h; cases h
    | true =>
      rw [h1] at h
      cases h2 : Nat.ble (k + 1) (2 ^ s.d) with
      | false => rw [h2] at h; cases h
      | true =>
        rw [h2] at h
        obtain rfl := Option.some.inj h; exact ⟨rfl, rfl⟩
theorem xStep_lo {G : List (Nat × List Value)} (hc : CallOk P G call) (h : xStep P call N lo ix o s = some s') : ∀ k, k < lo → toH s'.hp [k] = toH s.hp [k] := by
  unfold xStep at h
  split at h
  · split at h
    case h_2 => cases h
    rename_i hp' hu
    intro k hk
    rw [(xPut_hp h).1]
    exact (xUps_ok _ _ _ hu).2 k hk
  · rename_i f A hd
    cases hf : fnOk P f with
    | false => rw [hf] at h; cases h
    | true =>
      rw [hf] at h
      simp only [cond_true] at h
      split at h
      case h_2 => cases h
      rename_i r hp' n' hcall
      intro k hk
      rw [(xPut_hp h).1]
      exact (hc _ _ _ _ _ _ _ _ hcall).2 k hk
  · cases h
theorem xStep_ok (hc : CallOk P c.G call) (h : xStep P call N lo ix o s = some s') (hs : Sim s fs) (hix : fs.ix = ix) (hN : c.N = N) (hnm : c.nm = nmX) {K : FS → Prop} (hK : ∀ fs', Sim s' fs' → fs'.ix = ix → K fs') : wStep P c o fs K := by
  unfold xStep at h
  split at h
  · rename_i us v hd
    split at h
    case h_2 => cases h
    rename_i hp' hu
    obtain ⟨g1, g2⟩ := xDo_val hd
    obtain ⟨u1, u2⟩ := xUps_ok us _ _ hu
    have hs' : Sim ⟨s.d, s.sl, hp', s.n⟩ { fs with H := toH hp' } := hs.hp
    obtain ⟨fs', p1, p2, p3, p4, p5⟩ := xPut_ok h hs' hN
    unfold wStep
    rw [callee_R, hs.rv, g1]
    refine ⟨fs', ?_, hK fs' p2 (p3.trans hix)⟩
    have hw : wv P fs.H (c.nm (o.dst.getD 0) fs.ix) (FM.rv fs) o = some (us, v) := by rw [hnm, hix, hs.2, hs.rv]; exact g2
    unfold fStep
    rw [hw]
    simp only
    rw [hs.2, ← u1]
    exact p1
  · rename_i f A hd
    cases hf : fnOk P f with
    | false => rw [hf] at h; cases h
    | true =>
      rw [hf] at h
      simp only [cond_true] at h
      split at h
      case h_2 => cases h
      rename_i r hp' n' hcall
      obtain ⟨q1, q2⟩ := hc _ _ _ _ _ _ _ _ hcall
      have hs' : Sim ⟨s.d, s.sl, hp', n'⟩ { fs with H := toH hp' } := hs.hp
      obtain ⟨fs', p1, p2, p3, p4, p5⟩ := xPut_ok h hs' hN
      unfold wStep
      rw [callee_R, hs.rv, xDo_call hd]
      exact ⟨hf, r, toH hp', by rw [hs.2]; exact q1, fs', p1, hK fs' p2 (p3.trans hix)⟩
  · cases h
theorem xOps_lo {G : List (Nat × List Value)} (hc : CallOk P G call) : ∀ (l : List Oper) (s s' : XS), xOps P call N lo ix ops l s = some s' → ∀ k, k < lo → toH s'.hp [k] = toH s.hp [k]
  | [], s, s', h => by obtain rfl := Option.some.inj h; exact fun _ _ => rfl
  | o :: rest, s, s', h => by
    unfold xOps at h
    split at h
    · split at h
      case h_2 => cases h
      rename_i s1 h1
      intro k hk
      rw [xOps_lo hc rest s1 s' h k hk, xStep_lo hc h1 k hk]
    · split at h
      case h_2 => cases h
      rename_i s1 h1
      intro k hk
      rw [xOps_lo hc rest s1 s' h k hk, (xPut_hp h1).1]
    · cases h
theorem xOps_ok (hc : CallOk P c.G call) (hN : c.N = N) (hnm : c.nm = nmX) {K : FS → Prop} : ∀ (l : List Oper) (s s' : XS) (fs : FS), xOps P call N lo ix ops l s = some s' → Sim s fs → fs.ix = ix → (∀ fs', Sim s' fs' → K fs') → wOps P c ops l K fs
  | [], s, s', fs, h, hs, hix, hK => by
    obtain rfl := Option.some.inj h
    exact hK fs hs
  | o :: rest, s, s', fs, h, hs, hix, hK => by
    unfold xOps at h
    have hg : guardV ops o fs = guardR ops o s.get := by rw [guard_R, show fs.get = s.get from funext hs.1]
    split at h
    · rename_i hgt
      split at h
      case h_2 => cases h
      rename_i s1 h1
      simp only [wOps, hg, hgt]
      exact xStep_ok (K := wOps P c ops rest K) hc h1 hs hix hN hnm (fun fs' h1 h2 => xOps_ok hc hN hnm rest s1 s' fs' h h1 h2 hK)
    · rename_i hgt
      split at h
      case h_2 => cases h
      rename_i s1 h1
      obtain ⟨fs', p1, p2, p3, p4, p5⟩ := xPut_ok (c := c) h1 hs hN
      simp only [wOps, hg, hgt]
      exact ⟨fs', p1, xOps_ok hc hN hnm rest s1 s' fs' h p2 (p3.trans hix) hK⟩
    · cases h

/-! ### heads -/
structure HAOk (A : HA) : Prop where
  sub : ∀ h l ob, toH (A.add h) l = some ob → A.A l = some ob ∨ toH h l = some ob
  up : ∀ h l, toH h l ≠ none → toH (A.add h) l ≠ none
  names : ∀ U, A.ok U = true → ∀ l ob, A.A l = some ob → onB U ob = true
theorem upds_some : ∀ (us : List (Loc × FO)) (H : Heap) (l : Loc) (ob : FO), upds H us l = some ob → (∃ u ∈ us, u.1 = l ∧ u.2 = ob) ∨ H l = some ob
  | [], _, _, _, h => .inr h
  | u :: us, H, l, ob, h => by
    rcases upds_some us (upd H u.1 u.2) l ob h with ⟨x, h1, h2⟩ | h
    · exact .inl ⟨x, by simp [h1], h2⟩
    · unfold upd at h
      split at h
      · rename_i e
        exact .inl ⟨u, by simp, e.symm, by simpa using h⟩
      · exact .inr h
theorem putU_toH : ∀ (us : List (Loc × FO)) (h : Hp) (l : Loc) (ob : FO), (∀ u ∈ us, ∃ k, u.1 = [k] ∧ k < 2 ^ hpD) → toH (putU us h) l = upds (toH h) us l
  | [], _, _, _, _ => rfl
  | (k, o) :: us, h, l, ob, hu => by
    obtain ⟨j, hj0, hj⟩ := hu (k, o) (by simp)
    have hj0 : k = [j] := hj0
    subst hj0
    show toH (putU us (h.setF o hpD j)) l = upds (upd (toH h) [j] o) us l
    rw [putU_toH us _ l ob (fun u hm => hu u (by simp [hm])), toH_setF h j o hj]
theorem xUps_keys {lo : Nat} : ∀ (us : List (Loc × FO)) (h h' : Hp), xUps lo us h = some h' → ∀ u ∈ us, ∃ k, u.1 = [k] ∧ k < 2 ^ hpD
  | [], _, _, _, _, hu => by cases hu
  | (l, o) :: us, h, h', e, u, hu => by
    unfold xUps at e
    split at e
    case h_2 => cases e
    rename_i k
    rw [T.ble_lt] at e
    cases h1 : Nat.ble lo k with
    | false => rw [h1] at e; cases e
    | true =>
      rw [h1] at e
      by_cases h2 : k < 2 ^ hpD
      · simp only [h2, decide_true, cond_true] at e
        rcases List.mem_cons.1 hu with rfl | hu
        · exact ⟨k, rfl, h2⟩
        · exact xUps_keys us _ _ e u hu
      · simp [h2] at e
theorem haU_ok {us : List (Loc × FO)} (hu : ∀ u ∈ us, ∃ k, u.1 = [k] ∧ k < 2 ^ hpD) : HAOk (haU us) where
  sub h l ob hl := by
    have hl : toH (putU us h) l = some ob := hl
    rw [putU_toH us h l ob hu, upds_noH] at hl
    show upds noH us l = some ob ∨ _
    unfold ext at hl
    cases hA : upds noH us l with
    | some o => rw [hA] at hl; exact .inl hl
    | none => rw [hA] at hl; exact .inr hl
  up h l hl := by
    show toH (putU us h) l ≠ none
    obtain ⟨ob, _⟩ := Option.ne_none_iff_exists'.1 hl
    rw [putU_toH us h l ob hu]
    exact upds_ne us hl
  names U hU l ob hl := by
    have hl : upds noH us l = some ob := hl
    have hU : (us.all fun u => onB U u.2) = true := hU
    rcases upds_some us noH l ob hl with ⟨u, h1, _, rfl⟩ | h
    · exact List.all_eq_true.1 hU u h1
    · cases h
theorem fromK_eq (lo k : Nat) (h : Hp) : fromK lo h [k] = if lo ≤ k then toH h [k] else none := by
  show (bif Nat.ble lo k then (bif Nat.ble (k + 1) (2 ^ hpD) then h.getF hpD k else none) else none) = _
  cases h1 : Nat.ble lo k with
  | false =>
    have : ¬ lo ≤ k := fun h' => by rw [Nat.ble_eq_true_of_le h'] at h1; cases h1
    simp [this]
  | true =>
    have := Nat.le_of_ble_eq_true h1
    simp only [cond_true, this, if_true]
    rfl
theorem fromK_other (lo : Nat) (h : Hp) (l : Loc) (hl : ∀ k, l ≠ [k]) : fromK lo h l = none := by
  match l with
  | [] => rfl
  | [k] => exact absurd rfl (hl k)
  | _ :: _ :: _ => rfl
theorem join_toH {lo : Nat} {h hp' : Hp} (hu : h.under hpD lo = true) : toH (h.join hpD hp' lo) = ext (toH h) (fromK lo hp') := by
  funext l
  rcases loc_cases l with ⟨k, rfl⟩ | hl
  · unfold ext
    rw [fromK_eq, toH_eq, toH_eq, toH_eq]
    by_cases hk : k < 2 ^ hpD
    · simp only [hk, if_true]
      rw [T.get_join hpD h hp' lo k hk]
      by_cases h1 : k < lo
      · have : ¬ lo ≤ k := by omega
        simp [h1, this]
      · have h2 : lo ≤ k := by omega
        simp only [h1, if_false, h2, if_true]
        rw [T.get_under hpD h lo k hu h2 hk]
        cases T.get hpD hp' k <;> rfl
    · simp [hk]
  · unfold ext
    rw [toH_other _ l hl, fromK_other _ _ l hl, toH_other _ l hl]
theorem under_none {lo k : Nat} {h : Hp} (hu : h.under hpD lo = true) (hk : lo ≤ k) : toH h [k] = none := by
  rw [toH_eq]
  by_cases h1 : k < 2 ^ hpD
  · rw [if_pos h1]; exact T.get_under hpD h lo k hu hk h1
  · rw [if_neg h1]
theorem haC_ok (lo : Nat) (hp' : Hp) : HAOk (haC lo hp') where
  sub h l ob hl := by
    have hl : toH (bif h.under hpD lo then h.join hpD hp' lo else h) l = some ob := hl
    cases hu : h.under hpD lo with
    | false => rw [hu] at hl; exact .inr hl
    | true =>
      rw [hu] at hl
      simp only [cond_true] at hl
      rw [join_toH hu] at hl
      show fromK lo hp' l = some ob ∨ _
      unfold ext at hl
      cases hA : fromK lo hp' l with
      | some o => rw [hA] at hl; exact .inl hl
      | none => rw [hA] at hl; exact .inr hl
  up h l hl := by
    show toH (bif h.under hpD lo then h.join hpD hp' lo else h) l ≠ none
    cases hu : h.under hpD lo with
    | false => exact hl
    | true =>
      simp only [cond_true]
      rw [join_toH hu]
      unfold ext
      cases fromK lo hp' l <;> simp [hl]
  names U hU l ob hl := by
    have hl : fromK lo hp' l = some ob := hl
    have hU : hp'.allFrom (onB U) hpD lo = true := hU
    rcases loc_cases l with ⟨k, rfl⟩ | hl'
    · rw [fromK_eq] at hl
      split at hl
      · rename_i hk
        rw [toH_eq] at hl
        split at hl
        · exact T.get_allFrom _ hpD hp' lo k ob hU hk ‹_› hl
        · cases hl
      · cases hl
    · rw [fromK_other _ _ l hl'] at hl; cases hl
theorem needH_sub (H0 : Heap) : ∀ (As : List HA) (j : Nat) (l : Loc) (ob : FO), needH H0 o j As l = some ob → H0 l = some ob ∨ ∃ i Aj, As[i]? = some Aj ∧ waitsB o (j + i) = true ∧ Aj.A l = some ob
  | [], _, _, _, h => .inl h
  | A :: As, j, l, ob, h => by
    have again : needH H0 o (j + 1) As l = some ob → H0 l = some ob ∨ ∃ i Aj, (A :: As)[i]? = some Aj ∧ waitsB o (j + i) = true ∧ Aj.A l = some ob := fun h => by
      rcases needH_sub H0 As (j + 1) l ob h with g | ⟨i, Aj, g1, g2, g3⟩
      · exact .inl g
      · exact .inr ⟨i + 1, Aj, by simpa using g1, by rw [show j + (i + 1) = j + 1 + i by omega]; exact g2, g3⟩
    unfold needH at h
    split at h
    · rename_i hw
      split at h
      · rename_i ob' hA
        exact .inr ⟨0, A, rfl, by simpa using hw, hA.trans h⟩
      · exact again h
    · exact again h
theorem needT_sub : ∀ (As : List HA) (j : Nat) (h : Hp) (l : Loc) (ob : FO), (∀ A ∈ As, HAOk A) → toH (needT o j As h) l = some ob → toH h l = some ob ∨ ∃ i Aj, As[i]? = some Aj ∧ waitsB o (j + i) = true ∧ Aj.A l = some ob
  | [], _, _, _, _, _, h => .inl h
  | A :: As, j, h, l, ob, hok, hl => by
    have again : ∀ h1 : Hp, toH (needT o (j + 1) As h1) l = some ob → toH h1 l = some ob ∨ ∃ i Aj, (A :: As)[i]? = some Aj ∧ waitsB o (j + i) = true ∧ Aj.A l = some ob := fun h1 hl => by
      rcases needT_sub As (j + 1) h1 l ob (fun B hB => hok B (by simp [hB])) hl with g | ⟨i, Aj, g1, g2, g3⟩
      · exact .inl g
      · exact .inr ⟨i + 1, Aj, by simpa using g1, by rw [show j + (i + 1) = j + 1 + i by omega]; exact g2, g3⟩
    unfold needT at hl
    split at hl
    · rename_i hw
      rcases again _ hl with g | g
      · rcases (hok A (by simp)).sub h l ob g with g | g
        · exact .inr ⟨0, A, rfl, by simpa using hw, g⟩
        · exact .inl g
      · exact .inr g
    · exact again _ hl
theorem needT_up : ∀ (As : List HA) (j : Nat) (h : Hp) (l : Loc), (∀ A ∈ As, HAOk A) → toH h l ≠ none → toH (needT o j As h) l ≠ none
  | [], _, _, _, _, h => h
  | A :: As, j, h, l, hok, hl => by
    unfold needT
    split
    · exact needT_up As (j + 1) _ l (fun B hB => hok B (by simp [hB])) ((hok A (by simp)).up h l hl)
    · exact needT_up As (j + 1) _ l (fun B hB => hok B (by simp [hB])) hl
theorem needOk_names {U : Loc → Bool} : ∀ (As : List HA) (j : Nat), (∀ A ∈ As, HAOk A) → needOk o U j As = true → ∀ i Aj, As[i]? = some Aj → waitsB o (j + i) = true → ∀ l ob, Aj.A l = some ob → onB U ob = true
  | [], _, _, _, i, Aj, h, _ => by simp at h
  | A :: As, j, hok, h, i, Aj, hi, hw => by
    unfold needOk at h
    cases i with
    | zero =>
      simp only [List.getElem?_cons_zero, Option.some.injEq] at hi
      subst hi
      rw [if_pos (by simpa using hw), Bool.and_eq_true] at h
      exact (hok A (by simp)).names U h.1
    | succ i =>
      have hw' : waitsB o (j + 1 + i) = true := by rw [show j + 1 + i = j + (i + 1) by omega]; exact hw
      have hi' : As[i]? = some Aj := by simpa using hi
      split at h
      · rw [Bool.and_eq_true] at h
        exact needOk_names As (j + 1) (fun B hB => hok B (by simp [hB])) h.2 i Aj hi' hw'
      · exact needOk_names As (j + 1) (fun B hB => hok B (by simp [hB])) h i Aj hi' hw'
end
end Go.FM
namespace Go.FM
open Go
section
variable {P : Program} {c : Cfg} {N LF n : Nat} {o : Oper} {s s' : XS} {fs : FS} {call : XC} {lo : Nat} {ix : List Nat} {ops : Array Oper} {h0 : Hp} {As : List HA} {A : HA}

theorem xPut_put {v : FV} {d : Nat} (hd : o.dst = some d) (h : xPut N o v s = some s') (hs : Sim s fs) (hN : c.N = N) : d < c.N ∧ Sim s' (fs.put d v) ∧ (fs.put d v).ix = fs.ix := by
  obtain ⟨fs', p1, p2, p3, _, _⟩ := xPut_ok (c := c) h hs hN
  unfold putD at p1
  rw [hd] at p1
  simp only at p1
  split at p1
  · rename_i hlt
    obtain rfl := Option.some.inj p1
    exact ⟨hlt, p2, p3⟩
  · cases p1
theorem freshU_ok {h : Hp} : ∀ {us : List (Loc × FO)}, freshU h us = true → ∀ u ∈ us, toH h u.1 = none
  | [], _, _, hu => by cases hu
  | x :: us, hf, u, hu => by
    unfold freshU at hf
    rw [Bool.and_eq_true, Option.isNone_iff_eq_none] at hf
    rcases List.mem_cons.1 hu with rfl | hu
    · exact hf.1
    · exact freshU_ok hf.2 u hu
theorem xHead_ok (hc : CallOk P c.G call) (hN : c.N = N) (hnm : c.nm = nmX) (hcl : Closed (toH h0)) {d : Nat} (hd : o.dst = some d) (hg : guardV ops o fs = some true) (hAs : ∀ A ∈ As, HAOk A) (h : xHead P call N lo ix h0 As o s = some (s', A)) (hs : Sim s fs) (hix : fs.ix = ix) :
    HAOk A ∧ ∃ v Hn, Calm P c ops o { fs with H := Hn } d v A.A ∧ (∀ l, A.A l ≠ none → fs.H l = none) ∧ (∀ l ob, Hn l = some ob → toH h0 l = some ob ∨ ∃ j Aj, (As.map HA.A)[j]? = some Aj ∧ waitsB o j = true ∧ Aj l = some ob) ∧
      Sim s' ({ fs with H := ext fs.H A.A }.put d v) ∧ ({ fs with H := ext fs.H A.A }.put d v).ix = ix ∧ d < c.N := by
  unfold xHead at h
  split at h
  · rename_i us v hdo
    cases hf : freshU s.hp us with
    | false => rw [hf] at h; cases h
    | true =>
      rw [hf] at h
      simp only [cond_true] at h
      split at h
      case h_2 => cases h
      rename_i hp' hu
      split at h
      case h_2 => cases h
      rename_i s1 hp
      simp only [Option.some.injEq, Prod.mk.injEq] at h
      obtain ⟨rfl, rfl⟩ := h
      obtain ⟨g1, g2⟩ := xDo_val hdo
      obtain ⟨u1, u2⟩ := xUps_ok us _ _ hu
      obtain ⟨p1, p2, p3⟩ := xPut_put hd hp (hs.hp (hp' := hp') (n' := s.n)) hN
      have hext : toH hp' = ext fs.H (upds noH us) := by rw [u1, hs.2]; exact upds_noH _ _
      rw [hext] at p2 p3
      refine ⟨haU_ok (xUps_keys us _ _ hu), v, needH (toH h0) o 0 As, ?_, fun l hl => ?_, fun l ob hl => ?_, p2, p3.trans hix, p1⟩
      · refine calm_wv (s := { fs with H := needH (toH h0) o 0 As }) (us := us) (v := v) hg ?_ hd p1 ?_
        · show calleeR (FM.rv fs) o = none
          rw [hs.rv]; exact g1
        · rw [hd, Option.getD_some] at g2
          show wv P _ (c.nm d fs.ix) (FM.rv fs) o = _
          rw [hnm, hix, hs.rv]; exact g2
      · obtain ⟨ob, hob⟩ := Option.ne_none_iff_exists'.1 hl
        rcases upds_some us noH l ob hob with ⟨u, h1, rfl, _⟩ | h1
        · rw [hs.2]; exact freshU_ok hf u h1
        · cases h1
      · rcases needH_sub (toH h0) As 0 l ob hl with g | ⟨i, Aj, q1, q2, q3⟩
        · exact .inl g
        · exact .inr ⟨i, Aj.A, by rw [List.getElem?_map, q1]; rfl, by simpa using q2, q3⟩
  · rename_i f args hdo
    simp only at h
    generalize hhn : needT o 0 As h0 = hn at h
    cases hcond : (fnOk P f && ((nBs (fun l => (toH hn l).isSome) args && needOk o (fun l => (toH hn l).isSome) 0 As) && ((hn.under hpD s.n && s.hp.under hpD s.n) && Nat.ble lo s.n))) with
    | false => rw [hcond] at h; cases h
    | true =>
      rw [hcond] at h
      simp only [cond_true] at h
      split at h
      case h_2 => cases h
      rename_i r hp' n' hcall
      split at h
      case h_2 => cases h
      rename_i s1 hp
      simp only [Option.some.injEq, Prod.mk.injEq] at h
      obtain ⟨rfl, rfl⟩ := h
      simp only [Bool.and_eq_true] at hcond
      obtain ⟨hfn, ⟨hnb, hno⟩, ⟨hu1, hu2⟩, _⟩ := hcond
      obtain ⟨q1, q2⟩ := hc _ _ _ _ _ _ _ _ hcall
      obtain ⟨p1, p2, p3⟩ := xPut_put hd hp (hs.hp (hp' := s.hp.join hpD hp' s.n) (n' := n')) hN
      have hext : toH (s.hp.join hpD hp' s.n) = ext fs.H (fromK s.n hp') := by rw [join_toH hu2, hs.2]
      rw [hext] at p2 p3
      have hsub : ∀ l ob, toH hn l = some ob → toH h0 l = some ob ∨ ∃ i Aj, As[i]? = some Aj ∧ waitsB o (0 + i) = true ∧ Aj.A l = some ob := fun l ob hl => needT_sub As 0 h0 l ob hAs (by rw [hhn]; exact hl)
      have hcn : Closed (toH hn) := fun l ob hl => by
        rcases hsub l ob hl with g | ⟨i, Aj, g1, g2, g3⟩
        · refine onB_mono (fun k hk => ?_) ob (hcl l ob g)
          have : toH h0 k ≠ none := by simpa [isS, Option.isSome_iff_ne_none] using hk
          have := needT_up (o := o) As 0 h0 k hAs this
          rw [hhn] at this
          simpa [isS, Option.isSome_iff_ne_none] using this
        · exact needOk_names As 0 hAs hno i Aj g1 g2 l ob g3
      have hnew : toH hp' = ext (toH hn) (fromK s.n hp') := by
        funext l
        rcases loc_cases l with ⟨k, rfl⟩ | hl
        · unfold ext
          rw [fromK_eq]
          by_cases hk : s.n ≤ k
          · rw [if_pos hk, under_none hu1 hk]
            cases toH hp' [k] <;> rfl
          · rw [if_neg hk, q2 k (by omega)]
        · unfold ext
          rw [fromK_other _ _ l hl, toH_other _ l hl, toH_other _ l hl]
      refine ⟨haC_ok _ _, r, toH hn, ?_, fun l hl => ?_, fun l ob hl => ?_, p2, p3.trans hix, p1⟩
      · refine calm_call (s := { fs with H := toH hn }) (f := f) (args := args) (v := r) hg ?_ hfn hd p1 ?_
        · show calleeR (FM.rv fs) o = some (f, args)
          rw [hs.rv]; exact xDo_call hdo
        · intro H2 hH2 hf2
          rw [hnew] at q1
          exact q1.frame hcn hnb hH2 hf2
      · have hl : fromK s.n hp' l ≠ none := hl
        rcases loc_cases l with ⟨k, rfl⟩ | hl'
        · rw [fromK_eq] at hl
          by_cases hk : s.n ≤ k
          · rw [hs.2]; exact under_none hu2 hk
          · rw [if_neg hk] at hl; exact absurd rfl hl
        · rw [fromK_other _ _ l hl'] at hl; exact absurd rfl hl
      · rcases hsub l ob hl with g | ⟨i, Aj, g1, g2, g3⟩
        · exact .inl g
        · exact .inr ⟨i, Aj.A, by rw [List.getElem?_map, g1]; rfl, by simpa using g2, g3⟩
  · cases h

theorem xHead_lo {G : List (Nat × List Value)} (hc : CallOk P G call) (h : xHead P call N lo ix h0 As o s = some (s', A)) : ∀ k, k < lo → toH s'.hp [k] = toH s.hp [k] := by
  unfold xHead at h
  split at h
  · rename_i us v hdo
    cases hf : freshU s.hp us with
    | false => rw [hf] at h; cases h
    | true =>
      rw [hf] at h
      simp only [cond_true] at h
      split at h
      case h_2 => cases h
      rename_i hp' hu
      split at h
      case h_2 => cases h
      rename_i s1 hp
      simp only [Option.some.injEq, Prod.mk.injEq] at h
      obtain ⟨rfl, rfl⟩ := h
      intro k hk
      rw [(xPut_hp hp).1]
      exact (xUps_ok _ _ _ hu).2 k hk
  · rename_i f args hdo
    simp only at h
    generalize hhn : needT o 0 As h0 = hn at h
    cases hcond : (fnOk P f && ((nBs (fun l => (toH hn l).isSome) args && needOk o (fun l => (toH hn l).isSome) 0 As) && ((hn.under hpD s.n && s.hp.under hpD s.n) && Nat.ble lo s.n))) with
    | false => rw [hcond] at h; cases h
    | true =>
      rw [hcond] at h
      simp only [cond_true] at h
      split at h
      case h_2 => cases h
      rename_i r hp' n' hcall
      split at h
      case h_2 => cases h
      rename_i s1 hp
      simp only [Option.some.injEq, Prod.mk.injEq] at h
      obtain ⟨rfl, rfl⟩ := h
      simp only [Bool.and_eq_true] at hcond
      obtain ⟨hfn, ⟨hnb, hno⟩, ⟨hu1, hu2⟩, hlo⟩ := hcond
      have hlo := Nat.le_of_ble_eq_true hlo
      intro k hk
      rw [(xPut_hp hp).1]
      show toH (s.hp.join hpD hp' s.n) [k] = _
      rw [join_toH hu2]
      unfold ext
      rw [fromK_eq, if_neg (by omega)]
  · cases h
theorem xHeads_lo {G : List (Nat × List Value)} (hc : CallOk P G call) : ∀ (l : List Oper) (k : Nat) (s s' : XS) (As : List HA), xHeads P call N lo ix ops n h0 k l s As = some s' → ∀ k, k < lo → toH s'.hp [k] = toH s.hp [k]
  | [], k, s, s', As, h => by obtain rfl := Option.some.inj h; exact fun _ _ => rfl
  | o :: rest, k, s, s', As, h => by
    unfold xHeads at h
    cases h1 : Nat.ble (k + 1) n with
    | false => rw [h1] at h; exact xOps_lo hc _ s s' h
    | true =>
      rw [h1] at h
      simp only [cond_true] at h
      cases h2 : (depsB ops n k o && o.dst.isSome) with
      | false => rw [h2] at h; cases h
      | true =>
        rw [h2] at h
        simp only [cond_true] at h
        split at h
        · split at h
          case h_2 => cases h
          rename_i s1 A hh
          intro j hj
          rw [xHeads_lo hc rest (k + 1) s1 s' _ h j hj, xHead_lo hc hh j hj]
        · split at h
          case h_2 => cases h
          rename_i s1 hh
          intro j hj
          rw [xHeads_lo hc rest (k + 1) s1 s' _ h j hj, (xPut_hp hh).1]
        · cases h
theorem xHeads_ok (hc : CallOk P c.G call) (hN : c.N = N) (hnm : c.nm = nmX) (hcl : Closed (toH h0)) {K : FS → Prop} : ∀ (l : List Oper) (k : Nat) (s s' : XS) (fs : FS) (As : List HA), xHeads P call N lo ix ops n h0 k l s As = some s' → Sim s fs → fs.ix = ix → (∀ A ∈ As, HAOk A) →
    (∀ fs', Sim s' fs' → K fs') → awH P c ops n K (toH h0) k l fs (As.map HA.A)
  | [], k, s, s', fs, As, h, hs, hix, hAs, hK => by
    obtain rfl := Option.some.inj h
    exact hK fs hs
  | o :: rest, k, s, s', fs, As, h, hs, hix, hAs, hK => by
    unfold xHeads at h
    rw [T.ble_lt] at h
    by_cases h1 : k < n
    · simp only [h1, decide_true, cond_true] at h
      simp only [awH, h1, if_true]
      cases h2 : (depsB ops n k o && o.dst.isSome) with
      | false => rw [h2] at h; cases h
      | true =>
        rw [h2] at h
        simp only [cond_true] at h
        rw [Bool.and_eq_true] at h2
        obtain ⟨d, hd⟩ := Option.isSome_iff_exists.1 h2.2
        have hg : guardV ops o fs = guardR ops o s.get := by rw [guard_R, show fs.get = s.get from funext hs.1]
        split at h
        · rename_i hgt
          split at h
          case h_2 => cases h
          rename_i s1 A hh
          obtain ⟨hA, v, Hn, q1, q2, q3, q4, q5, q6⟩ := xHead_ok hc hN hnm hcl hd (hg.trans hgt) hAs hh hs hix
          refine ⟨d, v, A.A, Hn, _, q1.two, h2.1, fun l hl => .inr (q2 l hl), fun _ h => h.elim, fun l ob hl => (q3 l ob hl).imp_right .inr, ?_⟩
          have ih := xHeads_ok hc hN hnm hcl rest (k + 1) s1 s' _ (As ++ [A]) h q4 q5 (fun B hB => by
            rcases List.mem_append.1 hB with hB | hB
            · exact hAs B hB
            · rw [List.mem_singleton] at hB; rw [hB]; exact hA) hK
          rw [List.map_append] at ih
          exact ih
        · rename_i hgt
          split at h
          case h_2 => cases h
          rename_i s1 hh
          obtain ⟨p1, p2, p3⟩ := xPut_put hd hh hs hN
          refine ⟨d, .tup [], noH, noH, fun _ => False, (calm_nop (s := { fs with H := noH }) (hg.trans hgt) hd p1).two, h2.1, fun _ h => absurd rfl h, fun _ h => h.elim, fun _ _ h => (by cases h), ?_⟩
          have ih := xHeads_ok hc hN hnm hcl rest (k + 1) s1 s' _ (As ++ [haU []]) h p2 (p3.trans hix) (fun B hB => by
            rcases List.mem_append.1 hB with hB | hB
            · exact hAs B hB
            · rw [List.mem_singleton] at hB; rw [hB]; exact haU_ok (by simp)) hK
          rw [List.map_append] at ih
          rw [ext_noH]
          exact ih
        · cases h
    · simp only [h1, decide_false, cond_false] at h
      simp only [awH, h1, if_false]
      exact xOps_ok hc hN hnm _ s s' fs h hs hix hK
theorem headN_ok : ∀ (f m n : Nat), headN ops f m = some n → drawB ops n = true
  | 0, _, _, h => by cases h
  | f + 1, m, n, h => by
    unfold headN at h
    split at h
    · obtain rfl := Option.some.inj h; assumption
    · exact headN_ok f (m + 1) n h
theorem xDraw_ok (hc : CallOk P c.G call) (hN : c.N = N) (hnm : c.nm = nmX) (hcl : Closed (toH s.hp)) (hm : P.follows .mixedOrders = true) {K : FS → Prop} (h : xDraw P call N lo ix ops s = some s') (hs : Sim s fs) (hix : fs.ix = ix) (hK : ∀ fs', Sim s' fs' → K fs') : awDraw P c ops K fs := by
  unfold xDraw at h
  split at h
  case h_2 => cases h
  rename_i n hn
  refine ⟨hm, n, fs.H, headN_ok _ _ _ hn, fun _ _ h => h, ?_⟩
  rw [hs.2]
  exact xHeads_ok hc hN hnm hcl _ 0 s s' fs [] h hs hix (by simp) hK
theorem xDraw_lo {G : List (Nat × List Value)} (hc : CallOk P G call) (h : xDraw P call N lo ix ops s = some s') : ∀ k, k < lo → toH s'.hp [k] = toH s.hp [k] := by
  unfold xDraw at h
  split at h
  case h_2 => cases h
  exact xHeads_lo hc _ 0 s s' [] h

/-! ### code -/
def XRel (X : Ctx) (c : Cfg) (s : XS) (a : Act) (w : World) : Prop := ∃ fs, Sim s fs ∧ Rel X c fs a w
theorem XRel.enter {X : Ctx} {a : Act} {w : World} (h : XRel X c s a w) (ops : Array Oper) : ∃ fs, Sim (s.enter ops) fs ∧ fs.ix = s.n :: allocD ops ∧ Rel X c fs a w := by
  obtain ⟨fs, h1, h2⟩ := h
  exact ⟨{ fs with ix := s.n :: allocD ops }, ⟨h1.1, h1.2⟩, rfl, ix_wk fs _ X c a w h2⟩
theorem XRel.closed {X : Ctx} {a : Act} {w : World} (h : XRel X c s a w) : Closed (toH s.hp) := by
  obtain ⟨fs, h1, _, F, m, _, _, hR⟩ := h
  rw [← h1.2]
  exact hR.heap.closed
theorem condR_ok {X : Ctx} {a : Act} {w : World} {x : Operand} {b : Bool} (h : XRel X c s a w) (hx : condR s x = some b) : a.eval x = .bool b := by
  obtain ⟨fs, h1, h2⟩ := h
  refine cond_ok h2 ?_
  unfold condR at hx
  unfold condV
  split at hx
  · rename_i t; show (match fs.get t with | .bool b => some b | _ => none) = _; rw [h1.1]; exact hx
  · exact hx
  · cases hx
theorem xCode_ok (hc : CallOk P c.G call) (hN : c.N = N) (hnm : c.nm = nmX) {X : Ctx} : ∀ (code : Code) (s s' : XS) (e : Exit), xCode P call N LF lo code s = some (e, s') → ∀ (Q' : Exit → Act → World → Prop) (a : Act) (w : World), XRel X c s a w → (∀ a' w', XRel X c s' a' w' → Q' e a' w') → code.wp P Q' a w
  | .skip, s, s', e, h, Q', a, w, hr, hQ => by
    simp only [xCode, Option.some.injEq, Prod.mk.injEq] at h
    obtain ⟨rfl, rfl⟩ := h
    exact wp_skip (hQ a w hr)
  | .label _, s, s', e, h, Q', a, w, hr, hQ => by
    simp only [xCode, Option.some.injEq, Prod.mk.injEq] at h
    obtain ⟨rfl, rfl⟩ := h
    exact wp_label (hQ a w hr)
  | .region id ops false, s, s', e, h, Q', a, w, hr, hQ => by
    simp only [xCode] at h
    split at h
    case h_2 => cases h
    rename_i s1 h1
    simp only [Option.some.injEq, Prod.mk.injEq] at h
    obtain ⟨rfl, rfl⟩ := h
    obtain ⟨fs, g1, g2, g3⟩ := hr.enter ops
    exact wp_region_list (wOps_ok (K := fun fs' => Sim s1 fs') (fun fs' a' w' h' hq => hQ a' w' ⟨fs', hq, h'⟩) ops.toList fs a w g3 (xOps_ok hc hN hnm _ _ _ fs h1 g1 g2 fun _ h => h))
  | .region id ops true, s, s', e, h, Q', a, w, hr, hQ => by
    simp only [xCode] at h
    split at h
    case isFalse => cases h
    rename_i hm
    split at h
    case h_2 => cases h
    rename_i s1 h1
    simp only [Option.some.injEq, Prod.mk.injEq] at h
    obtain ⟨rfl, rfl⟩ := h
    obtain ⟨fs, g1, g2, g3⟩ := hr.enter ops
    exact awDraw_ok (K := fun fs' => Sim s1 fs') (fun fs' a' w' h' hq => hQ a' w' ⟨fs', hq, h'⟩) g3 (xDraw_ok (s := s.enter ops) hc hN hnm hr.closed hm h1 g1 g2 fun _ h => h)
  | .seq x y, s, s', e, h, Q', a, w, hr, hQ => by
    simp only [xCode] at h
    refine wp_seq ?_
    split at h
    · rename_i s1 h1
      exact xCode_ok hc hN hnm x s s1 .normal h1 _ a w hr fun a' w' hr' => xCode_ok hc hN hnm y s1 s' e h Q' a' w' hr' hQ
    · rename_i hne
      refine xCode_ok hc hN hnm x s s' e h _ a w hr fun a' w' hr' => ?_
      cases e with
      | normal => exact absurd h (hne s')
      | _ => exact hQ a' w' hr'
  | .cond x t e', s, s', e, h, Q', a, w, hr, hQ => by
    simp only [xCode] at h
    split at h
    · rename_i hx; exact wp_cond_true (condR_ok hr hx) (xCode_ok hc hN hnm t s s' e h Q' a w hr hQ)
    · rename_i hx; exact wp_cond_false (condR_ok hr hx) (xCode_ok hc hN hnm e' s s' e h Q' a w hr hQ)
    · cases h
  | .block id b, s, s', e, h, Q', a, w, hr, hQ => by
    simp only [xCode] at h
    refine wp_block ?_
    split at h
    · rename_i i s1 h1
      refine xCode_ok hc hN hnm b s s1 (.exit i) h1 _ a w hr fun a' w' hr' => ?_
      simp only [Exit.inBlock]
      split at h
      · rename_i e1
        simp only [Option.some.injEq, Prod.mk.injEq] at h
        obtain ⟨rfl, rfl⟩ := h
        rw [if_pos e1]; exact hQ a' w' hr'
      · rename_i e1
        simp only [Option.some.injEq, Prod.mk.injEq] at h
        obtain ⟨rfl, rfl⟩ := h
        rw [if_neg e1]; exact hQ a' w' hr'
    · rename_i hne
      refine xCode_ok hc hN hnm b s s' e h _ a w hr fun a' w' hr' => ?_
      cases e with
      | exit i => exact absurd h (hne i s')
      | _ => exact hQ a' w' hr'
  | .loop b, s, s', e, h, Q', a, w, hr, hQ => by
    simp only [xCode] at h
    refine wp_loop_rounds LF ?_
    have key : ∀ (k : Nat) (s : XS) (a : Act) (w : World), xIter (xCode P call N LF lo b) k s = some (e, s') → XRel X c s a w → Code.rounds P b Q' k a w := by
      intro k
      induction k with
      | zero => intro s a w h; cases h
      | succ k ih =>
        intro s a w h hr
        rw [rounds_succ]
        unfold xIter at h
        split at h
        · rename_i s1 h1
          exact xCode_ok hc hN hnm b s s1 .normal h1 _ a w hr fun a' w' hr' => ih s1 a' w' h hr'
        · rename_i hne
          refine xCode_ok hc hN hnm b s s' e h _ a w hr fun a' w' hr' => ?_
          cases e with
          | normal => exact absurd h (hne s')
          | _ => exact hQ a' w' hr'
    exact key LF s a w h hr
  | .exit id, s, s', e, h, Q', a, w, hr, hQ => by
    simp only [xCode, Option.some.injEq, Prod.mk.injEq] at h
    obtain ⟨rfl, rfl⟩ := h
    exact wp_exit (hQ a w hr)
  | .ret, s, s', e, h, Q', a, w, hr, hQ => by
    simp only [xCode, Option.some.injEq, Prod.mk.injEq] at h
    obtain ⟨rfl, rfl⟩ := h
    exact wp_ret (hQ a w hr)
  | .rangeFunc .., s, s', e, h, _, _, _, _, _ => by cases h
  | .scope _, s, s', e, h, _, _, _, _, _ => by cases h
  | .goto _, s, s', e, h, _, _, _, _, _ => by cases h
  | .refuse _, s, s', e, h, _, _, _, _, _ => by cases h
theorem xCode_lo {G : List (Nat × List Value)} (hc : CallOk P G call) : ∀ (code : Code) (s s' : XS) (e : Exit), xCode P call N LF lo code s = some (e, s') → ∀ k, k < lo → toH s'.hp [k] = toH s.hp [k]
  | .skip, s, s', e, h => by
    simp only [xCode, Option.some.injEq, Prod.mk.injEq] at h
    obtain ⟨rfl, rfl⟩ := h
    exact fun _ _ => rfl
  | .label _, s, s', e, h => by
    simp only [xCode, Option.some.injEq, Prod.mk.injEq] at h
    obtain ⟨rfl, rfl⟩ := h
    exact fun _ _ => rfl
  | .region id ops false, s, s', e, h => by
    simp only [xCode] at h
    split at h
    case h_2 => cases h
    rename_i s1 h1
    simp only [Option.some.injEq, Prod.mk.injEq] at h
    obtain ⟨rfl, rfl⟩ := h
    have := xOps_lo hc ops.toList (s.enter ops) s1 h1
    exact this
  | .region id ops true, s, s', e, h => by
    simp only [xCode] at h
    split at h
    case isFalse => cases h
    split at h
    case h_2 => cases h
    rename_i s1 h1
    simp only [Option.some.injEq, Prod.mk.injEq] at h
    obtain ⟨rfl, rfl⟩ := h
    have := xDraw_lo (s := s.enter ops) hc h1
    exact this
  | .seq x y, s, s', e, h => by
    simp only [xCode] at h
    split at h
    · rename_i s1 h1
      intro k hk
      rw [xCode_lo hc y s1 s' e h k hk, xCode_lo hc x s s1 .normal h1 k hk]
    · exact xCode_lo hc x s s' e h
  | .cond x t e', s, s', e, h => by
    simp only [xCode] at h
    split at h
    · exact xCode_lo hc t s s' e h
    · exact xCode_lo hc e' s s' e h
    · cases h
  | .block id b, s, s', e, h => by
    simp only [xCode] at h
    split at h
    · rename_i i s1 h1
      have := xCode_lo hc b s s1 (.exit i) h1
      split at h
      · simp only [Option.some.injEq, Prod.mk.injEq] at h
        obtain ⟨rfl, rfl⟩ := h
        exact this
      · simp only [Option.some.injEq, Prod.mk.injEq] at h
        obtain ⟨rfl, rfl⟩ := h
        exact this
    · exact xCode_lo hc b s s' e h
  | .loop b, s, s', e, h => by
    simp only [xCode] at h
    have key : ∀ (k : Nat) (s : XS), xIter (xCode P call N LF lo b) k s = some (e, s') → ∀ k, k < lo → toH s'.hp [k] = toH s.hp [k] := by
      intro k
      induction k with
      | zero => intro s h; cases h
      | succ k ih =>
        intro s h
        unfold xIter at h
        split at h
        · rename_i s1 h1
          intro j hj
          rw [ih s1 h j hj, xCode_lo hc b s s1 .normal h1 j hj]
        · exact xCode_lo hc b s s' e h
    exact key LF s h
  | .exit id, s, s', e, h => by
    simp only [xCode, Option.some.injEq, Prod.mk.injEq] at h
    obtain ⟨rfl, rfl⟩ := h
    exact fun _ _ => rfl
  | .ret, s, s', e, h => by
    simp only [xCode, Option.some.injEq, Prod.mk.injEq] at h
    obtain ⟨rfl, rfl⟩ := h
    exact fun _ _ => rfl
  | .rangeFunc .., s, s', e, h => by cases h
  | .scope _, s, s', e, h => by cases h
  | .goto _, s, s', e, h => by cases h
  | .refuse _, s, s', e, h => by cases h

/-! ### calls -/
theorem xRes_ok {fs : FS} (hs : Sim s fs) : ∀ (l : List ResultVar) (r : List FV), xRes P s l = some r → resL P fs l = some r
  | [], r, h => h
  | .tmp t :: l, r, h => by
    unfold xRes at h
    split at h
    case h_2 => cases h
    rename_i r' hr
    obtain rfl := Option.some.inj h
    simp [resL, resV, xRes_ok hs l _ hr, hs.1 t]
  | .cell t ty :: l, r, h => by
    unfold xRes at h
    split at h
    case h_2 => cases h
    rename_i v r' hv hr
    obtain rfl := Option.some.inj h
    simp [resL, resV, xRes_ok hs l _ hr, hs.1 t, hs.2, hv]
theorem initS_get (d : Nat) : ∀ (A : List FV) (k : Nat) (t : T FV) (j : Nat), k + A.length ≤ 2 ^ d → j < 2 ^ d → ((initS d A k t).get d j) = if k ≤ j ∧ j < k + A.length then A[j - k]? else t.get d j
  | [], k, t, j, hA, hj => by
    have : ¬ (k ≤ j ∧ j < k + ([] : List FV).length) := by simp
    rw [if_neg this]
    rfl
  | x :: A, k, t, j, hA, hj => by
    simp only [List.length_cons] at hA
    show (initS d A (k + 1) (t.setF x d k)).get d j = _
    rw [initS_get d A (k + 1) _ j (by omega) hj, T.setF_eq, T.get_set d t k j x (by omega) hj]
    by_cases h1 : j = k
    · subst h1
      have h2 : ¬ (j + 1 ≤ j ∧ j < j + 1 + A.length) := by omega
      rw [if_neg h2]
      simp
    · by_cases h2 : k + 1 ≤ j ∧ j < k + 1 + A.length
      · have h3 : k ≤ j ∧ j < k + (x :: A).length := by simp only [List.length_cons]; omega
        rw [if_pos h2, if_pos h3, show j - k = (j - (k + 1)) + 1 by omega, List.getElem?_cons_succ]
      · have h3 : ¬ (k ≤ j ∧ j < k + (x :: A).length) := by simp only [List.length_cons]; omega
        rw [if_neg h2, if_neg h3, if_neg h1]
theorem init_sim {d nv : Nat} {A : List FV} {hp : Hp} {n : Nat} (h1 : A.length ≤ nv) (h2 : nv ≤ 2 ^ d) : Sim ⟨d, initS d A 0 .nil, hp, n⟩ (FS.init nv A (toH hp)) := by
  refine ⟨fun t => ?_, rfl⟩
  rw [init_get, XS.get_eq]
  show _ = if t < 2 ^ d then ((initS d A 0 .nil).get d t).getD .undef else .undef
  by_cases ht : t < 2 ^ d
  · rw [if_pos ht, initS_get d A 0 .nil t (by omega) ht, T.get_nil]
    by_cases h : t < A.length
    · simp [h, List.getD_eq_getElem?_getD]
    · simp [h, List.getD_eq_getElem?_getD]
  · rw [if_neg ht, List.getD_eq_getElem?_getD, List.getElem?_eq_none (by omega)]
    rfl
def OrcOk (P : Program) (G : List (Nat × List Value)) (orc : Orc) : Prop := ∀ f A hp n r hp' n', orc f A hp n = some (r, hp', n') → FC P G f A (toH hp) r (toH hp') ∧ ∀ k, k < n → toH hp' [k] = toH hp [k]
theorem xCall_ok {G : List (Nat × List Value)} {orc : Orc} (ho : OrcOk P G orc) (LF : Nat) : ∀ k, CallOk P G (xCall P orc LF k)
  | 0 => fun lo f A hp n r hp' n' h => by cases h
  | k + 1 => fun lo f A hp n r hp' n' h => by
    have ih := xCall_ok ho LF k
    unfold xCall at h
    split at h
    · rename_i r1 hp1 n1 ho1
      rw [show Nat.ble lo n = decide (lo ≤ n) from by
        cases h1 : Nat.ble lo n
        · have : ¬ lo ≤ n := fun h' => by rw [Nat.ble_eq_true_of_le h'] at h1; cases h1
          simp [this]
        · simp [Nat.le_of_ble_eq_true h1]] at h
      by_cases hl : lo ≤ n
      · simp only [hl, decide_true, cond_true, Option.some.injEq, Prod.mk.injEq] at h
        obtain ⟨rfl, rfl, rfl⟩ := h
        obtain ⟨g1, g2⟩ := ho _ _ _ _ _ _ _ ho1
        exact ⟨g1, fun j hj => g2 j (by omega)⟩
      · simp [hl] at h
    · split at h
      case h_2 => cases h
      rename_i fn hfn
      split at h
      case h_2 => cases h
      rename_i code hcode
      cases h1 : Nat.ble A.length fn.ntmps with
      | false => rw [h1] at h; cases h
      | true =>
        rw [h1] at h
        have h1 := Nat.le_of_ble_eq_true h1
        simp only [cond_true] at h
        cases h2 : Nat.ble fn.ntmps (2 ^ dOf fn.ntmps) with
        | false => rw [h2] at h; cases h
        | true =>
          rw [h2] at h
          have h2 := Nat.le_of_ble_eq_true h2
          simp only [cond_true] at h
          have key : ∀ (e : Exit) (s1 : XS) (l : List FV), (e = .normal ∨ e = .ret) → xCode P (xCall P orc LF k) fn.ntmps LF lo code ⟨dOf fn.ntmps, initS (dOf fn.ntmps) A 0 .nil, hp, n⟩ = some (e, s1) → xRes P s1 fn.results.toList = some l → r = tupOf l → hp' = s1.hp →
              FC P G f A (toH hp) r (toH hp') ∧ ∀ j, j < lo → toH hp' [j] = toH hp [j] := by
            rintro e s1 l he hx hres rfl rfl
            refine ⟨?_, xCode_lo ih code _ s1 e hx⟩
            intro w F m vs hF hG hv hH
            let c : Cfg := ⟨fn.ntmps, [], nmX, G, fun _ => True⟩
            refine (fn_run_wp (c := c) (nv := A.length) (R := fun s2 l2 => s2.H = toH s1.hp ∧ tupOf l2 = tupOf l) hfn hcode rfl (Nat.le_refl _) h1 (fun X Q' hQ a w hr => ?_) (fun _ _ => trivial) w F m vs hF hG hv hH).mono ?_
            · refine xCode_ok (c := c) ih rfl rfl code _ s1 e hx Q' a w ⟨_, init_sim (Nat.le_refl _) (by omega), hr⟩ fun a' w' ⟨fs', g1, g2⟩ => ?_
              exact hQ e fs' a' w' g2 ⟨he, fs', Wk.refl _, l, xRes_ok g1 _ _ hres, g1.2, rfl⟩
            · rintro e w' ⟨v, s2, l2, F', m', a, rfl, ⟨q1, q2⟩, k1, k2, hR, hv2⟩
              rw [q2] at hv2
              rw [← q1]
              refine ⟨v, F', m', rfl, k1, fun y hy => ⟨k2 y hy, hR.frz y hy⟩, fun l hl => ⟨hR.mfix l hl, hR.ext l hl⟩, hv2, hR.heap, fun l hl => ?_, hR.size, fun y hy hn => hR.keep y hy fun ⟨l, h1, h2⟩ => hn l h1 h2, hR.os, hR.tape, hR.output⟩
              rcases hR.own l hl with ⟨k, h1, h2⟩ | h1
              · exact .inl ⟨k, h1, h2⟩
              · exact .inr h1
          split at h
          · rename_i s1 hx
            split at h
            case h_2 => cases h
            rename_i l hl
            simp only [Option.some.injEq, Prod.mk.injEq] at h
            exact key .normal s1 l (.inl rfl) hx hl h.1.symm h.2.1.symm
          · rename_i s1 hx
            split at h
            case h_2 => cases h
            rename_i l hl
            simp only [Option.some.injEq, Prod.mk.injEq] at h
            exact key .ret s1 l (.inr rfl) hx hl h.1.symm h.2.1.symm
          · cases h
end
end Go.FM
namespace Go.FM
open Go

/-! ### values without names -/
mutual
def nl : FV → Bool
  | .undef | .int .. | .bool _ | .str _ | .nilp | .nils | .nilm | .nilf | .emp => true
  | .list _ xs => nlss xs
  | .ref cs => nls cs
  | .agg cs => nls cs
  | .tup cs => nls cs
  | .clo _ a b => nls a && nls b
  | .ptr .. | .sl .. | .mp _ => false
def nls : List FV → Bool
  | [] => true
  | x :: xs => nl x && nls xs
def nlss : List (List FV) → Bool
  | [] => true
  | x :: xs => nls x && nlss xs
end
theorem nls_all (l : List FV) : nls l = l.all nl := by
  induction l with
  | nil => rfl
  | cons x l ih => simp [nls, ih]
theorem nlss_flatten (l : List (List FV)) : nlss l = nls l.flatten := by
  induction l with
  | nil => rfl
  | cons x l ih => simp only [nlss, ih, List.flatten_cons, nls_all, List.all_append]

section
variable {w w' : World} {F F' : Nat → Prop} {U U' : Loc → Prop} {m m' : Loc → Nat × Nat}
mutual
theorem RF.nameless {a : FV} {v : Value} (h : RF w F U m a v) (ha : nl a = true) (U' : Loc → Prop) (m' : Loc → Nat × Nat) : RF w F U' m' a v :=
  match h with
  | .undef v => .undef v
  | .int k n => .int k n
  | .bool b => .bool b
  | .str s => .str s
  | .list sz xs A cap vs hl hc hm h => .list sz xs A cap vs hl hc hm (RFs.nameless h (by rw [nl, nlss_flatten] at ha; exact ha) U' m')
  | .ref cs a vs hF hm h => .ref cs a vs hF hm (RFs.nameless h ha U' m')
  | .agg cs vs h => .agg cs vs (RFs.nameless h ha U' m')
  | .tup cs vs h => .tup cs vs (RFs.nameless h ha U' m')
  | .ptr .. => by simp [nl] at ha
  | .nilp => .nilp
  | .sl .. => by simp [nl] at ha
  | .sl0 .. => by simp [nl] at ha
  | .nils => .nils
  | .mp .. => by simp [nl] at ha
  | .nilm => .nilm
  | .clo f first caps us vs h1 h2 => by
    simp only [nl, Bool.and_eq_true] at ha
    exact .clo f first caps us vs (RFs.nameless h1 ha.1 U' m') (RFs.nameless h2 ha.2 U' m')
  | .nilf => .nilf
  | .emp A => .emp A
theorem RFs.nameless {as : List FV} {vs : List Value} (h : RFs w F U m as vs) (ha : nls as = true) (U' : Loc → Prop) (m' : Loc → Nat × Nat) : RFs w F U' m' as vs :=
  match h with
  | .nil => .nil
  | .cons a v as vs h hs => by
    simp only [nls, Bool.and_eq_true] at ha
    exact .cons a v as vs (RF.nameless h ha.1 U' m') (RFs.nameless hs ha.2 U' m')
end
end

/-! ### a value seen as read-only: what its named blocks hold stands in it -/
mutual
def frz (H : Heap) : Nat → FV → Option FV
  | 0, _ => none
  | n + 1, .sl l sz off len => match H l with
    | some (.cells _ sz' xs) => if decide (sz' = sz) && decide (off + len ≤ xs.length) then (frzR H n ((xs.drop off).take len)).map (.list sz) else none
    | _ => none
  | n + 1, .agg cs => if nls cs then some (.agg cs) else (frzs H n cs).map .agg
  | n + 1, .tup cs => if nls cs then some (.tup cs) else (frzs H n cs).map .tup
  | _ + 1, v => if nl v then some v else none
def frzs (H : Heap) : Nat → List FV → Option (List FV)
  | 0, _ => none
  | _ + 1, [] => some []
  | n + 1, x :: xs => (frz H n x).bind fun y => (frzs H n xs).map (y :: ·)
def frzR (H : Heap) : Nat → List (List FV) → Option (List (List FV))
  | 0, _ => none
  | n + 1, xs => if nlss xs then some xs else match xs with
    | [] => some []
    | x :: xs => (frzs H n x).bind fun y => (frzR H n xs).map (y :: ·)
end

/-- the blocks of live names, and what is read-only anyway -/
def frzF (F : Nat → Prop) (H : Heap) (m : Loc → Nat × Nat) : Nat → Prop := fun b => F b ∨ ∃ l, Live H m l ∧ (m l).1 = b

section
variable {w w' : World} {F F' : Nat → Prop} {U U' : Loc → Prop} {m m' : Loc → Nat × Nat} {H : Heap}

theorem RF.up {a : FV} {v : Value} (h : RF w F U m a v) (ha : nl a = true) : RF w (frzF F H m) (fun _ => False) m' a v :=
  (h.keep (w' := w) (F' := frzF F H m) (U' := U) (m' := m) (fun _ h => .inl h) (fun _ _ => rfl) (fun _ h => h) (fun _ _ => rfl)).nameless ha _ _
theorem RFs.up {a : List FV} {v : List Value} (h : RFs w F U m a v) (ha : nls a = true) : RFs w (frzF F H m) (fun _ => False) m' a v :=
  (h.keep (w' := w) (F' := frzF F H m) (U' := U) (m' := m) (fun _ h => .inl h) (fun _ _ => rfl) (fun _ h => h) (fun _ _ => rfl)).nameless ha _ _

theorem drop_flatten {α : Type} {sz : Nat} : ∀ (n : Nat) (xs : List (List α)), (∀ x ∈ xs, x.length = sz) → (xs.drop n).flatten = xs.flatten.drop (n * sz)
  | 0, xs, _ => by simp
  | n + 1, [], _ => by simp
  | n + 1, y :: ys, hl => by
    have hy := hl y (by simp)
    rw [List.drop_succ_cons, drop_flatten n ys (fun x hx => hl x (by simp [hx])), List.flatten_cons, Nat.add_mul, Nat.one_mul, Nat.add_comm, ← List.drop_drop]
    rw [show (y ++ ys.flatten).drop sz = ys.flatten by rw [← hy]; simp]
theorem take_flatten {α : Type} {sz : Nat} : ∀ (n : Nat) (xs : List (List α)), (∀ x ∈ xs, x.length = sz) → (xs.take n).flatten = xs.flatten.take (n * sz)
  | 0, xs, _ => by simp
  | n + 1, [], _ => by simp
  | n + 1, y :: ys, hl => by
    have hy := hl y (by simp)
    rw [List.take_succ_cons, List.flatten_cons, take_flatten n ys (fun x hx => hl x (by simp [hx])), List.flatten_cons, Nat.add_mul, Nat.one_mul, Nat.add_comm, ← hy, List.take_length_add_append]

theorem frz_ok (hH : HeapR w F m H) : ∀ (n : Nat),
    (∀ (x y : FV) (v : Value), frz H n x = some y → RF w F (fun l => H l ≠ none) m x v → RF w (frzF F H m) (fun _ => False) m' y v ∧ nl y = true) ∧
    (∀ (xs ys : List FV) (vs : List Value), frzs H n xs = some ys → RFs w F (fun l => H l ≠ none) m xs vs → RFs w (frzF F H m) (fun _ => False) m' ys vs ∧ nls ys = true) ∧
    (∀ (xs ys : List (List FV)) (vs : List Value), frzR H n xs = some ys → RFs w F (fun l => H l ≠ none) m xs.flatten vs → RFs w (frzF F H m) (fun _ => False) m' ys.flatten vs ∧ nlss ys = true ∧ ys.length = xs.length ∧ ∀ sz, (∀ x ∈ xs, x.length = sz) → ∀ y ∈ ys, y.length = sz)
  | 0 => ⟨fun _ _ _ h => by simp [frz] at h, fun _ _ _ h => by simp [frzs] at h, fun _ _ _ h => by simp [frzR] at h⟩
  | n + 1 => by
    obtain ⟨i1, i2, i3⟩ := frz_ok hH n
    refine ⟨fun x y v h hx => ?_, fun xs ys vs h hx => ?_, fun xs ys vs h hx => ?_⟩
    · have plain : ∀ z, nl z = true → z = y → RF w F (fun l => H l ≠ none) m z v → RF w (frzF F H m) (fun _ => False) m' y v ∧ nl y = true := fun z hz e hr => by subst e; exact ⟨hr.up hz, hz⟩
      cases x with
      | sl l sz off len =>
        simp only [frz] at h
        split at h
        · rename_i T sz' xs hl
          split at h
          · rename_i hc
            simp only [Bool.and_eq_true, decide_eq_true_eq] at hc
            obtain ⟨rfl, hlen⟩ := hc
            rw [Option.map_eq_some_iff] at h
            obtain ⟨ys, hys, rfl⟩ := h
            have hcl : ((xs.drop off).take len).length = len := by simp; omega
            rcases hH.obj l _ hl with ⟨rfl, h0⟩ | ⟨h0, c, g1, g2, g3, g4, g5⟩
            · have hl0 : len = 0 := by simp at hlen; omega
              subst hl0
              have := i3 _ _ [] hys (by simpa using RFs.nil)
              have hy0 : ys = [] := List.eq_nil_of_length_eq_zero (by simpa using this.2.2.1)
              subst hy0
              refine ⟨?_, rfl⟩
              cases hx with
              | sl _ _ _ _ cap o hu hcap ho hs => exact .list sz' [] _ cap [] (by simp) (by simp) (by simp) .nil
              | sl0 => exact .list sz' [] _ 0 [] (by simp) (by simp) (by simp) .nil
            · have hpart := (g5.drop (off * sz')).take (len * sz')
              rw [← drop_flatten off xs g3, ← take_flatten len _ (fun x hx => g3 x (List.mem_of_mem_drop hx))] at hpart
              obtain ⟨k1, k2, k3, k4⟩ := i3 _ _ _ hys hpart
              have k4 := k4 sz' (fun x hx => g3 x (List.mem_of_mem_drop (List.mem_of_mem_take hx)))
              rw [hcl] at k3
              refine ⟨?_, by simpa [nl] using k2⟩
              have hlive : Live H m l := ⟨_, hl, by simp, h0⟩
              cases hx with
              | sl _ _ _ _ cap o hu hcap ho hs =>
                have := RF.list (w := w) (F := frzF F H m) (U := fun _ => False) (m := m') sz' ys (some ⟨(m l).1, o, none⟩) cap _ k4 (by omega) (fun hne => ?_) k1
                · rw [k3] at this; exact this
                · have hpos : 0 < len := by
                    rcases Nat.eq_zero_or_pos len with e | e
                    · exact absurd (List.eq_nil_of_length_eq_zero (by omega)) hne
                    · exact e
                  have ho' : o = off * sz' := ho.resolve_left (by omega)
                  refine ⟨_, rfl, .inr ⟨l, hlive, rfl⟩, fun j u hj => ?_⟩
                  rw [List.getElem?_take] at hj
                  split at hj
                  · rename_i hjl
                    rw [List.getElem?_drop, List.getElem?_take] at hj
                    split at hj
                    · rw [add0, cell_blk g1, ho']; simpa using hj
                    · cases hj
                  · cases hj
              | sl0 _ _ _ _ hu h00 => exact absurd h00 h0
          · cases h
        · cases h
      | agg cs =>
        simp only [frz] at h
        split at h
        · rename_i hc
          exact plain (.agg cs) hc (by simpa using h) hx
        · rw [Option.map_eq_some_iff] at h
          obtain ⟨ys, hys, rfl⟩ := h
          cases hx with
          | agg _ vs hvs =>
          obtain ⟨k1, k2⟩ := i2 _ _ _ hys hvs
          exact ⟨.agg ys vs k1, k2⟩
      | tup cs =>
        simp only [frz] at h
        split at h
        · rename_i hc
          exact plain (.tup cs) hc (by simpa using h) hx
        · rw [Option.map_eq_some_iff] at h
          obtain ⟨ys, hys, rfl⟩ := h
          cases hx with
          | tup _ vs hvs =>
          obtain ⟨k1, k2⟩ := i2 _ _ _ hys hvs
          exact ⟨.tup ys vs k1, k2⟩
      | _ =>
        simp only [frz] at h
        split at h
        · rename_i hc
          exact plain _ hc (by simpa using h) hx
        · cases h
    · cases xs with
      | nil =>
        simp only [frzs, Option.some.injEq] at h
        subst h
        cases hx
        exact ⟨.nil, rfl⟩
      | cons x xs' =>
        simp only [frzs] at h
        rw [Option.bind_eq_some_iff] at h
        obtain ⟨y, hy, h⟩ := h
        rw [Option.map_eq_some_iff] at h
        obtain ⟨ys', hys, rfl⟩ := h
        cases hx with
        | cons _ v _ vs hv hvs =>
        obtain ⟨k1, k2⟩ := i1 _ _ _ hy hv
        obtain ⟨k3, k4⟩ := i2 _ _ _ hys hvs
        exact ⟨.cons _ _ _ _ k1 k3, by simp [nls, k2, k4]⟩
    · simp only [frzR] at h
      split at h
      · rename_i hc
        obtain rfl := by simpa using h
        exact ⟨hx.up (by rw [← nlss_flatten]; exact hc), hc, rfl, fun sz hl => hl⟩
      · rename_i hc
        cases xs with
        | nil => exact absurd rfl hc
        | cons x xs2 =>
          simp only at h
          rw [Option.bind_eq_some_iff] at h
          obtain ⟨y, hy, h⟩ := h
          rw [Option.map_eq_some_iff] at h
          obtain ⟨ys', hys, rfl⟩ := h
          rw [List.flatten_cons] at hx
          obtain ⟨v1, v2, rfl, g1, g2⟩ := RFs.part x xs2.flatten hx
          obtain ⟨k1, k2⟩ := i2 _ _ _ hy g1
          obtain ⟨k3, k4, k5, k6⟩ := i3 _ _ _ hys g2
          refine ⟨by rw [List.flatten_cons]; exact k1.append k3, by simp [nlss, k2, k4], by simp [k5], fun sz hl z hz => ?_⟩
          rcases List.mem_cons.1 hz with rfl | hz
          · rw [k1.length, ← g1.length]; exact hl x (by simp)
          · exact k6 sz (fun q hq => hl q (by simp [hq])) z hz
end
end Go.FM
namespace Go.FM
open Go

/-! ### nil as an empty read-only slice -/
mutual
def asR : FV → FV → Prop
  | .nils, r => r = .nils ∨ ∃ sz, r = .list sz []
  | .agg cs, r => ∃ ds, r = .agg ds ∧ asRs cs ds
  | .tup cs, r => ∃ ds, r = .tup ds ∧ asRs cs ds
  | v, r => r = v
def asRs : List FV → List FV → Prop
  | [], l => l = []
  | x :: xs, l => ∃ y ys, l = y :: ys ∧ asR x y ∧ asRs xs ys
end
section
variable {w w' : World} {F F' : Nat → Prop} {U U' : Loc → Prop} {m m' : Loc → Nat × Nat} {P : Program}
mutual
theorem RF.asR {x y : FV} {v : Value} (h : RF w F U m x v) (hr : asR x y) : RF w F U m y v := by
  cases h with
  | nils =>
    rcases hr with rfl | ⟨sz, rfl⟩
    · exact .nils
    · exact .list sz [] none 0 [] (by simp) (by simp) (by simp) .nil
  | agg cs vs h =>
    obtain ⟨ds, rfl, hds⟩ := hr
    exact .agg ds vs (RFs.asR h hds)
  | tup cs vs h =>
    obtain ⟨ds, rfl, hds⟩ := hr
    exact .tup ds vs (RFs.asR h hds)
  | undef v => have e : y = .undef := hr; subst e; exact .undef v
  | int k n => have e : y = .int k n := hr; subst e; exact .int k n
  | bool b => have e : y = .bool b := hr; subst e; exact .bool b
  | str s => have e : y = .str s := hr; subst e; exact .str s
  | list sz xs A cap vs hl hc hm h => have e : y = .list sz xs := hr; subst e; exact .list sz xs A cap vs hl hc hm h
  | ref cs a vs hF hm h => have e : y = .ref cs := hr; subst e; exact .ref cs a vs hF hm h
  | ptr l sz i off hu => have e : y = .ptr l sz i off := hr; subst e; exact .ptr l sz i off hu
  | nilp => have e : y = .nilp := hr; subst e; exact .nilp
  | sl l sz off len cap o hu hc ho hs => have e : y = .sl l sz off len := hr; subst e; exact .sl l sz off len cap o hu hc ho hs
  | sl0 l sz off A hu h0 => have e : y = .sl l sz off 0 := hr; subst e; exact .sl0 l sz off A hu h0
  | mp l hu => have e : y = .mp l := hr; subst e; exact .mp l hu
  | nilm => have e : y = .nilm := hr; subst e; exact .nilm
  | clo f a b us vs h1 h2 => have e : y = .clo f a b := hr; subst e; exact .clo f a b us vs h1 h2
  | nilf => have e : y = .nilf := hr; subst e; exact .nilf
  | emp A => have e : y = .emp := hr; subst e; exact .emp A
theorem RFs.asR {xs ys : List FV} {vs : List Value} (h : RFs w F U m xs vs) (hr : asRs xs ys) : RFs w F U m ys vs := by
  cases h with
  | nil => have e : ys = [] := hr; subst e; exact .nil
  | cons a v as vs h hs =>
    obtain ⟨y, ys', rfl, h1, h2⟩ := hr
    exact .cons y v ys' vs (RF.asR h h1) (RFs.asR hs h2)
end

/-! ### pure functions -/
def PC (P : Program) (G : List (Nat × List Value)) (f : FuncId) (args : List FV) (r : FV) : Prop := FC P G f args noH r noH
def PEnd (P : Program) (res : List ResultVar) (r : FV) (e : Exit) (s : FS) : Prop :=
  (e = .normal ∨ e = .ret) ∧ ∃ s1, Wk s1 s ∧ ∃ l, resL P s1 res = some l ∧ ∃ n y, frz s1.H n (tupOf l) = some y ∧ asR y r
theorem heapR_noH (w : World) (F : Nat → Prop) (m : Loc → Nat × Nat) : HeapR w F m noH :=
  ⟨fun _ _ h => (by cases h), fun _ _ ⟨_, h, _⟩ => (by cases h), fun _ ⟨_, h, _⟩ => (by cases h)⟩
theorem PC_of {f : FuncId} {fn : Func} {code : Code} {c : Cfg} {nv : Nat} {args : List FV} {r : FV} (hf : P.funcs[f]? = some fn) (hb : fn.body = some code) (hN : c.N = fn.ntmps)
    (hargs : args.length ≤ nv) (hnv : nv ≤ fn.ntmps) (h : wCode P c code (PEnd P fn.results.toList r) (FS.init nv args noH)) : PC P c.G f args r := by
  intro w F m vs hF hG hv hH
  refine (fn_run hf hb hN hargs hnv h (fun _ h => absurd rfl h) w F m vs hF hG hv hH).mono ?_
  rintro e w' ⟨v, s1, l, F', m', a, rfl, ⟨n, y, hy, hr⟩, k1, k2, hR, hv2⟩
  have hnol : ∀ b, ¬ Ctx.lent ⟨w, F, noH, m⟩ b := fun b ⟨l, ⟨_, h, _⟩, _⟩ => by cases h
  obtain ⟨g1, _⟩ := (frz_ok (m' := m') hR.heap n).1 _ _ _ hy hv2
  refine ⟨v, frzF F' s1.H m', m', rfl, fun y hy => .inl (k1 y hy), fun y hy => ?_, fun l hl => absurd rfl hl, ?_, heapR_noH _ _ _, fun l ⟨_, h, _⟩ => (by cases h), hR.size, fun y hy _ => hR.keep y hy (hnol y), hR.os, hR.tape, hR.output⟩
  · rcases hy with hy | ⟨l, hl, rfl⟩
    · exact ⟨k2 y hy, hR.frz y hy⟩
    · exact ⟨.inr ((hR.own l hl).resolve_left (hnol _)), (hR.heap.old l hl).1⟩
  · exact (g1.asR hr).keep (fun _ h => h) (fun _ _ => rfl) (fun _ h => h.elim) (fun _ h => h.elim)
/-- a pure function over read-only things, called over whatever blocks -/
theorem PC.lift {G : List (Nat × List Value)} {f : FuncId} {args : List FV} {r : FV} (h : PC P G f args r) (ha : nls args = true) (H : Heap) : FC P G f args H r H := by
  intro w F m vs hF hG hv hH
  refine (h w F m vs hF hG (hv.nameless ha _ _) (heapR_noH _ _ _)).mono ?_
  rintro e w' ⟨v, F', m', he, k1, k2, _, k4, _, _, k7, k8, k9, k10, k11⟩
  have hold : ∀ y, y < w.heap.size → w'.heap[y]? = w.heap[y]? := fun y hy => k8 y hy fun l ⟨_, h, _⟩ => by cases h
  have hR : HeapR w' F' m H := by
    have hF' : ∀ b, F b → w'.heap[b]? = w.heap[b]? := fun b hb => hold b (hF b hb)
    refine ⟨fun l o ho => ?_, hH.inj, fun l hl => ⟨by have := (hH.old l hl).1; omega, fun hFl => ?_⟩⟩
    · exact (hH.obj l o ho).keep k1 hF' (fun _ h => h) (fun _ _ => rfl) rfl (fun hd h0 => hold _ (hH.old l ⟨o, ho, hd, h0⟩).1)
    · have := hH.old l hl
      rcases (k2 _ hFl).1 with h1 | h1
      · exact this.2 h1
      · omega
  exact ⟨v, F', m, he, k1, k2, fun l hl => ⟨rfl, hl⟩, k4.keep (fun _ h => h) (fun _ _ => rfl) (fun l hl => absurd rfl hl) (fun l hl => absurd rfl hl), hR, fun l hl => .inl ⟨l, hl, rfl⟩, k7, fun y hy _ => hold y hy, k9, k10, k11⟩

/-- a value that leads to no memory -/
def sca : FV → Bool
  | .int .. | .bool _ | .str _ => true
  | .tup cs => cs.all fun | .int .. | .bool _ | .str _ => true | _ => false
  | .agg cs => cs.all fun | .int .. | .bool _ | .str _ => true | _ => false
  | _ => false
theorem RFs.scas {cs : List FV} {vs : List Value} (h : RFs w F U m cs vs) (hs : (cs.all fun | .int .. | .bool _ | .str _ => true | _ => false) = true) (w' : World) (F' : Nat → Prop) (U' : Loc → Prop) (m' : Loc → Nat × Nat) : RFs w' F' U' m' cs vs := by
  match h with
  | .nil => exact .nil
  | .cons a v as vs h hs' =>
    simp only [List.all_cons, Bool.and_eq_true] at hs
    have h1 : RF w' F' U' m' a v := by cases h <;> first | (simp at hs; done) | exact RF.int _ _ | exact RF.bool _ | exact RF.str _
    exact RFs.cons a v as vs h1 (RFs.scas hs' hs.2 w' F' U' m')
theorem RF.scas {r : FV} {v : Value} (h : RF w F U m r v) (hs : sca r = true) (w' : World) (F' : Nat → Prop) (U' : Loc → Prop) (m' : Loc → Nat × Nat) : RF w' F' U' m' r v := by
  cases h <;> first | (simp [sca] at hs; done) | exact RF.int _ _ | exact RF.bool _ | exact RF.str _ | exact RF.agg _ _ (RFs.scas ‹_› hs _ _ _ _) | exact RF.tup _ _ (RFs.scas ‹_› hs _ _ _ _)
/-- what is made here may be lent to a pure function that answers with numbers -/
theorem PC.lend {G : List (Nat × List Value)} {f : FuncId} {args args1 args2 : List FV} {r : FV} {H : Heap} {n : Nat} (hz : frzs H n args = some args1) (ha : asRs args1 args2) (h : PC P G f args2 r) (hs : sca r = true) : FC P G f args H r H := by
  intro w F m vs hF hG hv hH
  obtain ⟨g1, _⟩ := (frz_ok (m' := m) hH n).2.1 _ _ _ hz hv
  have g2 := (g1.asR ha).keep (w' := w) (F' := frzF F H m) (U' := fun l => noH l ≠ none) (m' := m) (fun _ h => h) (fun _ _ => rfl) (fun _ h => h.elim) (fun _ h => h.elim)
  refine (h w (frzF F H m) m vs (fun y hy => ?_) (hG.mono fun _ _ h => .inl h) g2 (heapR_noH _ _ _)).mono ?_
  · rcases hy with hy | ⟨l, hl, rfl⟩
    · exact hF y hy
    · exact (hH.old l hl).1
  · rintro e w' ⟨v, F', m', he, k1, k2, _, k4, _, _, k7, k8, k9, k10, k11⟩
    have hold : ∀ y, y < w.heap.size → w'.heap[y]? = w.heap[y]? := fun y hy => k8 y hy fun l ⟨_, h, _⟩ => by cases h
    have hF' : ∀ b, F b → w'.heap[b]? = w.heap[b]? := fun b hb => hold b (hF b hb)
    have hR : HeapR w' F m H := by
      refine ⟨fun l o ho => ?_, hH.inj, fun l hl => ⟨by have := (hH.old l hl).1; omega, (hH.old l hl).2⟩⟩
      exact (hH.obj l o ho).keep (fun _ h => h) hF' (fun _ h => h) (fun _ _ => rfl) rfl (fun hd h0 => hold _ (hH.old l ⟨o, ho, hd, h0⟩).1)
    exact ⟨v, F, m, he, fun _ h => h, fun y hy => ⟨.inl hy, by have := hF y hy; omega⟩, fun l hl => ⟨rfl, hl⟩, k4.scas hs _ _ _ _, hR, fun l hl => .inl ⟨l, hl, rfl⟩, k7, fun y hy _ => hold y hy, k9, k10, k11⟩
end
end Go.FM
namespace Go.FM
open Go Go.RowKit
section
variable {P : Program} {G : List (Nat × List Value)} {f : FuncId} {A : List FV} {w w' : World} {F : Nat → Prop} {m : Loc → Nat × Nat} {H : Heap}

theorem PC_of_FC {r : FV} {H' : Heap} (h : FC P G f A noH r H') (hr : nl r = true) : PC P G f A r := by
  intro w F m vs hF hG hv hH
  refine (h w F m vs hF hG hv hH).mono ?_
  rintro e w' ⟨v, F', m', rfl, k1, k2, k3, k4, k5, k6, k7, k8, k9, k10, k11⟩
  exact ⟨v, F', m', rfl, k1, k2, fun l hl => absurd rfl hl, k4.nameless hr _ _, heapR_noH _ _ _, fun l ⟨_, h, _⟩ => (by cases h), k7, k8, k9, k10, k11⟩

theorem HeapR.below (hH : HeapR w F m H) (hF : ∀ b, F b → b < w.heap.size) (hb : Below w.heap.size w w') : HeapR w' F m H :=
  ⟨fun l o ho => (hH.obj l o ho).keep (fun _ h => h) (fun b hb' => hb.block b (hF b hb')) (fun _ h => h) (fun _ _ => rfl) rfl (fun hd h0 => hb.block _ (hH.old l ⟨o, ho, hd, h0⟩).1), hH.inj,
   fun l hl => ⟨Nat.lt_of_lt_of_le (hH.old l hl).1 hb.size, (hH.old l hl).2⟩⟩
theorem FC_below {r : FV} (h : ∀ (w : World) (F : Nat → Prop) (m : Loc → Nat × Nat) (vs : List Value), (∀ b, F b → b < w.heap.size) → GlobOk G F w → RFs w F (fun l => H l ≠ none) m A vs → HeapR w F m H →
    Calls P f vs.toArray w fun e w' => ∃ v, e = .returned v ∧ Below w.heap.size w w' ∧ RF w' F (fun l => H l ≠ none) m r v) : FC P G f A H r H := by
  intro w F m vs hF hG hv hH
  refine (h w F m vs hF hG hv hH).mono ?_
  rintro e w' ⟨v, rfl, hb, hr⟩
  exact ⟨v, F, m, rfl, fun _ h => h, fun y hy => ⟨.inl hy, Nat.lt_of_lt_of_le (hF y hy) hb.size⟩, fun l hl => ⟨rfl, hl⟩, hr, hH.below hF hb, fun l hl => .inl ⟨l, hl, rfl⟩, hb.size, fun y hy _ => hb.block y hy, hb.os, hb.tape, hb.output⟩
/-- behind a call that has laid one row, and turned nothing that was there -/
theorem HeapR.belowRow (hH : HeapR w F m H) (hF : ∀ b, F b → b < w.heap.size) (hb : Below w.heap.size w w') {l : Loc} (hl : H l = none) {g : Nat} {cur : Array Value} {T : TypeId} {sz : Nat} {rows : List (List FV)} (hg : w.heap.size ≤ g)
    (hc : w'.heap[g]? = some (.cells cur T (0, 0))) (h0 : cur.size ≠ 0) (hrow : ∀ x ∈ rows, x.length = sz) (hsz : rows.length * sz ≤ cur.size) (hr : RFs w' F (fun k => H k ≠ none) m rows.flatten (cur.toList.take (rows.length * sz))) :
    HeapR w' F (fun k => if k = l then (g, cur.size) else m k) (upd H l (.cells T sz rows)) := by
  have hU : ∀ k, H k ≠ none → upd H l (.cells T sz rows) k ≠ none := fun k hk => by unfold upd; split <;> simp [hk]
  have hm : ∀ k, H k ≠ none → (if k = l then (g, cur.size) else m k) = m k := fun k hk => by
    have : k ≠ l := fun e => hk (e ▸ hl)
    rw [if_neg this]
  have hold := hH.below hF hb
  have hgl : g < w'.heap.size := (Array.getElem?_eq_some_iff.1 hc).1
  have hLive : ∀ k, Live (upd H l (.cells T sz rows)) (fun k => if k = l then (g, cur.size) else m k) k → k ≠ l → Live H m k := fun k ⟨o, h1, h2, h3⟩ e => by
    unfold upd at h1
    rw [if_neg e] at h1
    have h3 : (if k = l then (g, cur.size) else m k).2 ≠ 0 := h3
    rw [if_neg e] at h3
    exact ⟨o, h1, h2, h3⟩
  refine ⟨fun k o ho => ?_, fun k k' hk hk' e => ?_, fun k hk => ?_⟩
  · by_cases e : k = l
    · subst e
      have : o = .cells T sz rows := by simpa [upd] using ho.symm
      subst this
      exact .inr ⟨by simpa using h0, cur, by simpa using hc, by simp, hrow, hsz, hr.keep (fun _ h => h) (fun _ _ => rfl) hU hm⟩
    · unfold upd at ho
      rw [if_neg e] at ho
      exact (hold.obj k o ho).keep (fun _ h => h) (fun _ _ => rfl) hU hm (if_neg e) (fun _ _ => rfl)
  · by_cases e1 : k = l <;> by_cases e2 : k' = l
    · rw [e1, e2]
    · exfalso
      have := (hH.old k' (hLive k' hk' e2)).1
      simp only [e1, e2, if_true, if_false] at e
      omega
    · exfalso
      have := (hH.old k (hLive k hk e1)).1
      simp only [e1, e2, if_true, if_false] at e
      omega
    · simp only [e1, e2, if_false] at e
      exact hH.inj k k' (hLive k hk e1) (hLive k' hk' e2) e
  · by_cases e : k = l
    · subst e
      simp only [if_true]
      exact ⟨hgl, fun hF' => by have := hF _ hF'; omega⟩
    · simp only [e, if_false]
      exact hold.old k (hLive k hk e)
/-- what one row's making is, as a contract -/
theorem FC_row {l : Loc} {T : TypeId} {sz n : Nat} {rows : List (List FV)} (hl : H l = none) (hpos : 0 < sz) (h : ∀ (w : World) (F : Nat → Prop) (m : Loc → Nat × Nat) (vs : List Value), (∀ b, F b → b < w.heap.size) → GlobOk G F w → RFs w F (fun l => H l ≠ none) m A vs → HeapR w F m H →
    Calls P f vs.toArray w fun e w' => ∃ (g cap : Nat) (cur : Array Value), e = .returned (.slice (some ⟨g, 0, none⟩) n cap) ∧ Below w.heap.size w w' ∧ w.heap.size ≤ g ∧ w'.heap[g]? = some (.cells cur T (0, 0)) ∧ n ≤ cap ∧ cur.size = cap * sz ∧ 0 < cap ∧
      (∀ x ∈ rows, x.length = sz) ∧ rows.length * sz ≤ cur.size ∧ RFs w' F (fun k => H k ≠ none) m rows.flatten (cur.toList.take (rows.length * sz))) :
    FC P G f A H (.sl l sz 0 n) (upd H l (.cells T sz rows)) := by
  intro w F m vs hF hG hv hH
  refine (h w F m vs hF hG hv hH).mono ?_
  rintro e w' ⟨g, cap, cur, rfl, hb, hg, hc, hn, hcs, hcap, hrow, hsz, hr⟩
  have h0 : cur.size ≠ 0 := by rw [hcs]; exact Nat.ne_of_gt (Nat.mul_pos hcap hpos)
  have hR := hH.belowRow hF hb hl hg hc h0 hrow hsz hr
  have hgl : g < w'.heap.size := (Array.getElem?_eq_some_iff.1 hc).1
  refine ⟨_, F, _, rfl, fun _ h => h, fun y hy => ⟨.inl hy, Nat.lt_of_lt_of_le (hF y hy) hb.size⟩, fun k hk => ⟨?_, ?_⟩, ?_, hR, fun k hk => ?_, hb.size, fun y hy _ => hb.block y hy, hb.os, hb.tape, hb.output⟩
  · have : k ≠ l := fun e => hk (e ▸ hl)
    simp [this]
  · unfold upd; split <;> simp [hk]
  · have := RF.sl (w := w') (F := F) (U := fun k => upd H l (.cells T sz rows) k ≠ none) (m := fun k => if k = l then (g, cur.size) else m k) l sz 0 n cap 0 (by simp [upd]) hn (.inr (by simp)) (by simp [hcs])
    simpa using this
  · by_cases e : k = l
    · right; simp only [e, if_true]; exact hg
    · left
      obtain ⟨o, h1, h2, h3⟩ := hk
      unfold upd at h1
      rw [if_neg e] at h1
      have h3 : (if k = l then (g, cur.size) else m k).2 ≠ 0 := h3
      rw [if_neg e] at h3
      exact ⟨k, ⟨o, h1, h2, h3⟩, by simp [e]⟩
end
end Go.FM
