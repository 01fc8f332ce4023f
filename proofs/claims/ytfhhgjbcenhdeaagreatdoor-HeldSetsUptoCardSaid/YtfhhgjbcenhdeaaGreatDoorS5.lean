/- Part. -/
import Derived.Test.YtfhhgjbcenhdeaaGreatDoorS4
import Derived.Below
set_option linter.all false
set_option maxRecDepth 100000
set_option maxHeartbeats 0
namespace Go.FM
open Go
variable {H : Heap} {P : Program} {args : List FV} {c : Cfg} {code : Code} {f : FuncId} {fn : Func} {nv : Nat} {r : FV} {s s1 : Fs}
def a2t (ops : Array Oper) : Option Nat := (ops.back?).bind (·.dst)
def b0u (tm : Asg) (n : Nat) : List Nat -> Asg
 | [] => []
 | t :: r => if t < n then b0u tm n r else (t, lk tm t) :: b0u tm n r
def Fs.clean (s : Fs) (k : Option Nat) (keep : List Nat) : Fs :=
 { s with tm := match k with
   | some d => if d < s.vars.length then b0u s.tm s.vars.length keep else match lk s.tm d with
     | .bool b => (d, .bool b) :: b0u s.tm s.vars.length keep
     | _ => b0u s.tm s.vars.length keep
   | none => b0u s.tm s.vars.length keep }
def Wk (s1 s : Fs) : Prop := ∀ (X : Ctx) (c : Cfg) (a : Act) (w : World), Rel X c s a w -> Rel X c s1 a w
theorem Wk.refl (s : Fs) : Wk s s := fun _ _ _ _ h => h
theorem Wk.trans {s2 s3 : Fs} (h : Wk s1 s2) (h' : Wk s2 s3) : Wk s1 s3 := fun X c a w hr => h X c a w (h' X c a w hr)
theorem Fs.le.wk (h : s1.le s) : Wk s1 s := fun _ _ _ _ hr => hr.weaken h
theorem b0m (tm : Asg) (n : Nat) : ∀ (keep : List Nat) (t : Nat), lk (b0u tm n keep) t = .undef \/ lk (b0u tm n keep) t = lk tm t
 | [], t => .inl rfl
 | d :: r, t => by
   unfold b0u
   split
   . exact b0m tm n r t
   . simp only [lk]
     split
     . rename_i e; subst e; exact .inr rfl
     . exact b0m tm n r t
theorem b5t (s : Fs) (k : Option Nat) (keep : List Nat) : (s.clean k keep).le s := by
 refine ⟨rfl, fun t => ?_, fun l => .inl rfl⟩
 simp only [Fs.get, Fs.clean]
 by_cases ht : t < s.vars.length
 . simp only [ht, if_true]; exact .inr trivial
 . simp only [ht, if_false]
   cases k with
   | none => exact b0m _ _ _ _
   | some d =>
     simp only
     split
     . exact b0m _ _ _ _
     . split
       . rename_i b hb
         simp only [lk]
         split
         . rename_i e; subst e; rw [hb]; exact .inr rfl
         . exact b0m _ _ _ _
       . exact b0m _ _ _ _
theorem g2j (s : Fs) (ix : List Nat) : Wk { s with ix := ix } s := fun X c a w ⟨hN, F, m, h1, h2, h⟩ => ⟨hN, F, m, h1, h2, { h with val := h.val }⟩
def Gk (c : Cfg) (s1 s : Fs) : Prop := ∀ (X : Ctx) (a : Act) (w : World), Rel X c s a w -> Rel X c s1 a w
theorem Wk.gk (h : Wk s1 s) : Gk c s1 s := fun X a w hr => h X c a w hr
theorem Gk.trans {s2 s3 : Fs} (h : Gk c s1 s2) (h' : Gk c s2 s3) : Gk c s1 s3 := fun X a w hr => h X a w (h' X a w hr)
def b8q (s : Fs) : Operand -> Option Bool
 | .tmp t => match s.get t with
   | .bool b => some b
   | _ => none
 | .const (.bool b) => some b
 | _ => none
theorem e0w {X : Ctx} {a : Act} {w : World} {x : Operand} {b : Bool} (h : Rel X c s a w) (hx : b8q s x = some b) : a.eval x = .bool b := by
 obtain ⟨_, F, m, _, _, h⟩ := h
 unfold b8q at hx
 split at hx
 . rename_i t
   split at hx
   . rename_i b' hb'
     obtain rfl : b' = b := by simpa using hx
     have hv := h.val t
     rw [hb'] at hv
     show a.tmps.getD t undef = _
     generalize a.tmps.getD t undef = v at hv
     cases hv
     rfl
   . cases hx
 . obtain rfl := by simpa using hx
   rfl
 . cases hx
def RWp (P : Program) (c : Cfg) (ops : Array Oper) (s : Fs) (Φ : Fs -> Prop) : Prop :=
 ∀ (X : Ctx) (a : Act) (w : World) (Q : Exit -> Act -> World -> Prop), Rel X c s a w -> (∀ s1 a' w', Φ s1 -> Rel X c s1 a' w' -> Q .normal a' w') -> wpList P ops Q ops.toList a w
def RWpD (P : Program) (c : Cfg) (ops : Array Oper) (s : Fs) (Φ : Fs -> Prop) : Prop :=
 ∀ (id : Nat) (X : Ctx) (a : Act) (w : World) (Q : Exit -> Act -> World -> Prop), Rel X c s a w -> (∀ s1 a' w', Φ s1 -> Rel X c s1 a' w' -> Q .normal a' w') -> (Code.region id ops true).wp P Q a w
def a0z (P : Program) (c : Cfg) : Code -> (Exit -> Fs -> Prop) -> Fs -> Prop
 | .skip, Q, s => Q .normal s
 | .label _, Q, s => Q .normal s
 | .region _ ops false, Q, s => wOps P c ops ops.toList (fun s' => Q .normal (s'.clean (a2t ops) c.keep)) s \/ ∃ Φ, RWp P c ops s Φ /\ ∀ s', Φ s' -> Q .normal (s'.clean (a2t ops) c.keep)
 | .region _ ops true, Q, s => f1f P c ops (fun s' => Q .normal (s'.clean (a2t ops) c.keep)) s \/ ∃ Φ, RWpD P c ops s Φ /\ ∀ s', Φ s' -> Q .normal (s'.clean (a2t ops) c.keep)
 | .seq x y, Q, s => a0z P c x (fun e s' => match e with
   | .normal => a0z P c y Q s'
   | e => Q e s') s
 | .cond x t e, Q, s => match b8q s x with
   | some true => a0z P c t Q s
   | some false => a0z P c e Q s
   | none => False
 | .block id b, Q, s => a0z P c b (fun e s' => match e with
   | .exit i => if i = id then Q .normal s' else Q (.exit i) s'
   | e => Q e s') s
 | .loop b, Q, s => ∃ (I : Nat -> Fs -> Prop), (∃ n s1, Gk c s1 s /\ I n s1) /\ ∀ n s, I n s -> a0z P c b (fun e s' => match e with
   | .normal => ∃ m s1, m < n /\ Gk c s1 s' /\ I m s1
   | e => Q e s') s
 | .exit id, Q, s => Q (.exit id) s
 | .ret, Q, s => Q .ret s
 | _, _, _ => False
theorem a7x {P : Program} {X : Ctx} {c : Cfg} : ∀ (code : Code) (Q : Exit -> Fs -> Prop) (Q' : Exit -> Act -> World -> Prop), (∀ e s a w, Rel X c s a w -> Q e s -> Q' e a w) ->
 ∀ (s : Fs) (a : Act) (w : World), Rel X c s a w -> a0z P c code Q s -> code.wp P Q' a w
 | .skip, Q, Q', hQ, s, a, w, h, hs => wp_skip (hQ _ s a w h hs)
 | .label _, Q, Q', hQ, s, a, w, h, hs => wp_label (hQ _ s a w h hs)
 | .region id ops false, Q, Q', hQ, s, a, w, h, .inl hs => wp_region_list (b9x (K := fun s' => Q .normal (s'.clean (a2t ops) c.keep)) (fun s' a' w' h' hq => hQ _ _ a' w' (h'.weaken (b5t s' _ _)) hq) ops.toList s a w h hs)
 | .region id ops false, Q, Q', hQ, s, a, w, h, .inr ⟨Φ, hR, hs⟩ => wp_region_list (hR X a w _ h fun s' a' w' h1 h' => hQ _ _ a' w' (h'.weaken (b5t s' _ _)) (hs s' h1))
 | .region id ops true, Q, Q', hQ, s, a, w, h, .inl hs => e1y (K := fun s' => Q .normal (s'.clean (a2t ops) c.keep)) (fun s' a' w' h' hq => hQ _ _ a' w' (h'.weaken (b5t s' _ _)) hq) h hs
 | .region id ops true, Q, Q', hQ, s, a, w, h, .inr ⟨Φ, hR, hs⟩ => hR id X a w _ h fun s' a' w' h1 h' => hQ _ _ a' w' (h'.weaken (b5t s' _ _)) (hs s' h1)
 | .seq x y, Q, Q', hQ, s, a, w, h, hs => wp_seq (a7x x _ _ (fun e s' a' w' h' hq => by
  cases e with
  | normal => exact a7x y Q Q' hQ s' a' w' h' hq
  | _ => exact hQ _ s' a' w' h' hq) s a w h hs)
 | .cond x t e, Q, Q', hQ, s, a, w, h, hs => by
   simp only [a0z] at hs
   split at hs
   . rename_i hc; exact wp_cond_true (e0w h hc) (a7x t Q Q' hQ s a w h hs)
   . rename_i hc; exact wp_cond_false (e0w h hc) (a7x e Q Q' hQ s a w h hs)
   . exact hs.elim
 | .block id b, Q, Q', hQ, s, a, w, h, hs => wp_block (a7x b _ _ (fun e s' a' w' h' hq => by
  cases e with
  | exit i =>
    simp only [Exit.inBlock]
    simp only at hq
    split
    . rename_i e; rw [if_pos e] at hq; exact hQ _ s' a' w' h' hq
    . rename_i e; rw [if_neg e] at hq; exact hQ _ s' a' w' h' hq
  | _ => exact hQ _ s' a' w' h' hq) s a w h hs)
 | .loop b, Q, Q', hQ, s, a, w, h, hs => by
   obtain ⟨I, ⟨n, s1, hle, hI⟩, hround⟩ := hs
   refine wp_loop_rounds (n + 1) ?_
   have key : ∀ (k n : Nat) (s : Fs) (a : Act) (w : World), n < k -> I n s -> Rel X c s a w -> Code.rounds P b Q' k a w := by
    intro k
    induction k with
    | zero => intro n s a w hm; omega
    | succ k ih =>
      intro n s a w hm hI h
      rw [rounds_succ]
      exact a7x b _ _ (fun e s' a' w' h' hq => by
       cases e with
       | normal =>
         obtain ⟨m, s2, hm2, hle2, hI2⟩ := hq
         exact ih m s2 a' w' ya hI2 (hle2 X a' w' h')
       | _ => exact hQ _ s' a' w' h' hq) s a w h (hround n s hI)
   exact key _ n s1 a w ya hI (hle X a w h)
 | .exit id, Q, Q', hQ, s, a, w, h, hs => wp_exit (hQ _ s a w h hs)
 | .ret, Q, Q', hQ, s, a, w, h, hs => wp_ret (hQ _ s a w h hs)
 | .rangeFunc .., Q, Q', hQ, s, a, w, h, hs => (hs : False).elim
 | .scope _, Q, Q', hQ, s, a, w, h, hs => (hs : False).elim
 | .goto _, Q, Q', hQ, s, a, w, h, hs => (hs : False).elim
 | .refuse _, Q, Q', hQ, s, a, w, h, hs => (hs : False).elim
def resV (P : Program) (s : Fs) : ResultVar -> Option FV
 | .tmp t => some (s.get t)
 | .cell t ty => b4s P s.H ty (s.get t)
def resL (P : Program) (s : Fs) : List ResultVar -> Option (List FV)
 | [] => some []
 | x :: r => (resV P s x).bind fun v => (resL P s r).map (v :: ·)
def Fs.init (nv : Nat) (args : List FV) (H : Heap) : Fs := { vars := args ++ List.replicate (nv - args.length) .undef, tm := [], H := H, ix := [] }
def a0p : List FV -> FV
 | [x] => x
 | l => .tup l
def c3g (a : Act) : ResultVar -> Sem Value
 | .tmp t => pure (a.tmps.getD t undef)
 | .cell x t => do loadVar t (<- asAddr (a.tmps.getD x undef))
theorem f3t {X : Ctx} {F : Nat -> Prop} {m : Loc -> Nat × Nat} {a : Act} {w : World} (h : RelX X F m s a w) {x : ResultVar} {v : FV} (hv : resV P s x = some v) :
 ∃ u, (c3g a x).run P w = .ok u w /\ RF w F (fun l => s.H l ≠ none) m v u := by
 cases x with
 | tmp t =>
   obtain rfl := by simpa [resV] using hv
   exact ⟨_, rfl, h.val t⟩
 | cell t ty =>
   obtain ⟨u, h1, h2⟩ := d0t (P := P) h.heap hv (h.val t)
   refine ⟨u, ?_, h2⟩
   have hp : ∃ ad, a.tmps.getD t undef = .pointer (some ad) := by
    have ht := h.val t
    simp only [resV] at hv
    unfold b4s at hv
    split at hv
    . cases hv
    . split at hv
      . rename_i hg; rw [hg] at ht; generalize a.tmps.getD t undef = z at ht; cases ht; exact ⟨_, rfl⟩
      . rename_i hg; rw [hg] at ht; generalize a.tmps.getD t undef = z at ht; cases ht; exact ⟨_, rfl⟩
      . cases hv
    . split at hv
      . rename_i hg; rw [hg] at ht; generalize a.tmps.getD t undef = z at ht; cases ht; exact ⟨_, rfl⟩
      . rename_i hg; rw [hg] at ht; generalize a.tmps.getD t undef = z at ht; cases ht; exact ⟨_, rfl⟩
      . cases hv
    . split at hv
      . rename_i hg; rw [hg] at ht; generalize a.tmps.getD t undef = z at ht; cases ht; exact ⟨_, rfl⟩
      . rename_i hg; rw [hg] at ht; generalize a.tmps.getD t undef = z at ht; cases ht; exact ⟨_, rfl⟩
      . cases hv
   obtain ⟨ad, hp⟩ := hp
   rw [hp] at h1
   simp only [c3g, hp, asAddr]
   simpa [Instr.loadAt, Instr.sureAddr] using h1
theorem d6k {P : Program} {X : Ctx} {F : Nat -> Prop} {m : Loc -> Nat × Nat} {s : Fs} {a : Act} {w : World} (h : RelX X F m s a w) :
 ∀ (l : List ResultVar) (vs : List FV), resL P s l = some vs -> ∃ us : List Value, (l.mapM (c3g a)).run P w = .ok us w /\ RFs w F (fun l => s.H l ≠ none) m vs us
 | [], vs, hv => by
   simp only [resL, A5v] at hv
   subst hv
   exact ⟨[], by simp, .nil⟩
 | x :: l, vs, hv => by
   simp only [resL, A1h, A5q] at hv
   obtain ⟨v, hv, vs', hvs, rfl⟩ := hv
   obtain ⟨u, g1, g2⟩ := f3t h hv
   obtain ⟨us, k1, k2⟩ := d6k h l vs' hvs
   refine ⟨u :: us, ?_, .cons _ _ _ _ g2 k2⟩
   rw [List.mapM_cons]
   simp only [Sem.run_bind, g1, k1, Result.andThen_ok, Sem.run_pure]
theorem a9v {α : Type} (l : List α) (n t : Nat) (u : α) : (l ++ List.replicate n u).getD t u = l.getD t u := by
 rw [A5m, A5m]
 rcases A0r t l.length with h | h
 . rw [A0f h]
 . rw [A0k h, A5y h]
   rcases A0r (t - l.length) n with h' | h'
   . simp [h']
   . rw [A5y (by simpa using h')]
theorem e6c (nv : Nat) (args : List FV) (H : Heap) (t : Nat) : (Fs.init nv args H).get t = args.getD t .undef := by
 by_cases h : t < (Fs.init nv args H).vars.length
 . unfold Fs.get
   rw [if_pos h]; exact a9v args _ t .undef
 . unfold Fs.get
   rw [if_neg h]
   show FV.undef = _
   rw [A5m, A5y]
   . rfl
   . simp [Fs.init] at h; omega
theorem RFs.getD {w : World} {F : Nat -> Prop} {U : Loc -> Prop} {m : Loc -> Nat × Nat} : ∀ {as : List FV} {vs : List Value}, RFs w F U m as vs -> ∀ t, RF w F U m (as.getD t .undef) (vs.getD t undef)
 | _, _, .nil, t => by simpa using RF.undef _
 | _, _, .cons a v as vs h hs, 0 => by simpa using h
 | _, _, .cons a v as vs h hs, t + 1 => by simpa using RFs.getD hs t
theorem d9w {R : Fs -> List FV -> Prop} (hf : P.funcs[f]? = some fn) (hb : fn.body = some code) (hN : c.N = fn.ntmps)
 (hargs : args.length <= nv) (hnv : nv <= fn.ntmps) (h : ∀ (X : Ctx) (Q' : Exit -> Act -> World -> Prop), (∀ e s a w, Rel X c s a w -> ((e = .normal \/ e = .ret) /\ ∃ s1, Wk s1 s /\ ∃ l, resL P s1 fn.results.toList = some l /\ R s1 l) -> Q' e a w) -> ∀ a w, Rel X c (Fs.init nv args H) a w -> code.wp P Q' a w)
 (hL : ∀ l, H l ≠ none -> c.L l) (w : World) (F : Nat -> Prop) (m : Loc -> Nat × Nat) (vs : List Value) (hF : ∀ y, F y -> y < w.heap.size) (hG : a5g c.G F w) (hv : RFs w F (fun l => H l ≠ none) m args vs) (hH : HeapR w F m H) :
 Calls P f vs.toArray w fun e w' => ∃ (v : Value) (s1 : Fs) (l : List FV) (F' : Nat -> Prop) (m' : Loc -> Nat × Nat) (a : Act), e = .returned v /\ R s1 l /\ (∀ y, F y -> F' y) /\ (∀ y, F' y -> F y \/ w.heap.size <= y) /\ RelX ⟨w, F, H, m⟩ F' m' s1 a w' /\
  RF w' F' (fun l => s1.H l ≠ none) m' (a0p l) v := by
 have hlen := hv.length
 let X : Ctx := ⟨w, F, H, m⟩
 let a0 : Act := { tmps := vs.toArray ++ Array.replicate (fn.ntmps - vs.toArray.size) undef, defers := [] }
 have hget : ∀ t, a0.tmps.getD t undef = vs.getD t undef := fun t => by
  show (vs.toArray ++ Array.replicate (fn.ntmps - vs.toArray.size) undef).getD t undef = _
  rw [A2x, <- A2m]
  simp only [A4j, Array.toList_replicate]
  rw [<- A5m]
  exact a9v vs _ t undef
 have hsz : a0.tmps.size = fn.ntmps := by
  show (vs.toArray ++ Array.replicate (fn.ntmps - vs.toArray.size) undef).size = _
  simp; omega
 have hrel : Rel X c (Fs.init nv args H) a0 w := by
  refine ⟨by rw [hN]; exact hsz, F, m, ⟨fun _ h => h, hG, fun p hp ⟨l, hl, e⟩ => (hH.old l hl).2 (by rw [show (m l).1 = p.1 from e]; exact (hG p hp).1), hL⟩, fun y hy => .inl hy, ?_⟩
  exact { df := rfl, vsz := by rw [hsz]; simp only [Fs.init, A0b, A0u]; omega, val := fun t => by rw [e6c, hget]; exact hv.getD t, heap := hH, own := fun l hl => .inl ⟨l, hl, rfl⟩,
          ext := fun l hl => hl, mfix := fun _ _ => rfl, frz := hF, keep := fun _ _ _ => rfl, size := A5s _, os := rfl, tape := rfl, output := rfl }
 refine calls_of_wp hf hb ?_
 refine h X _ (fun e s a w' h' hq => ?_) a0 w hrel
 obtain ⟨he, s1, hwk, l, hl, hR0⟩ := hq
 obtain ⟨hN', F', m', k1, k2, hR⟩ := hwk X c a w' h'
 obtain ⟨us, m1, m2⟩ := d6k hR _ _ hl
 have hrun : ∃ v, (results fn a.tmps).run P w' = .ok v w' /\ RF w' F' (fun l => s1.H l ≠ none) m' (a0p l) v := by
  have hm : (fn.results.mapM (c3g a)).run P w' = .ok us.toArray w' := by
   rw [Array.mapM_eq_mapM_toList]
   simp only [Sem.run_map, m1, Result.andThen_ok]
  have hres : results fn a.tmps = (do let vs <- fn.results.mapM (c3g a); pure (if h : vs.size = 1 then vs[0] else .tuple vs) : Sem Value) := by
   unfold results
   congr 1
  rw [hres, Sem.run_bind, hm]
  simp only [Result.andThen_ok, Sem.run_pure]
  have hul := m2.length
  by_cases h1 : us.toArray.size = 1
  . rw [dif_pos h1]
    have hus : us.length = 1 := by simpa using h1
    match us, l, hus, hul, m2 with
    | [u], [x], _, _, m2 =>
      obtain ⟨v, hv, hrv⟩ := m2.single
      simp only [A1q, and_true] at hv
      subst hv
      exact ⟨u, rfl, hrv⟩
  . rw [dif_neg h1]
    refine ⟨_, rfl, ?_⟩
    have hus : us.length ≠ 1 := by simpa using h1
    have : a0p l = .tup l := by
     match l, hul with
     | [], _ => rfl
     | [x], hul => exact absurd (by rw [<- hul]; rfl) hus
     | x :: y :: l, _ => rfl
    rw [this]
    exact .tup l us m2
 obtain ⟨v, hv1, hv2⟩ := hrun
 have hpost : a.defers = [] /\ ∃ v, (results fn a.tmps).run P w' = .ok v w' /\ ∃ (v' : Value) (s1 : Fs) (l : List FV) (F' : Nat -> Prop) (m' : Loc -> Nat × Nat) (a : Act), Ending.returned v = .returned v' /\ R s1 l /\ (∀ y, F y -> F' y) /\
  (∀ y, F' y -> F y \/ w.heap.size <= y) /\ RelX ⟨w, F, H, m⟩ F' m' s1 a w' /\ RF w' F' (fun l => s1.H l ≠ none) m' (a0p l) v' :=
  ⟨hR.df, v, hv1, v, s1, l, F', m', a, rfl, hR0, k1.up, k2, hR, hv2⟩
 rcases he with rfl | rfl
 . exact hpost
 . exact hpost
theorem d0p {R : Fs -> List FV -> Prop} (hf : P.funcs[f]? = some fn) (hb : fn.body = some code) (hN : c.N = fn.ntmps)
 (hargs : args.length <= nv) (hnv : nv <= fn.ntmps) (h : a0z P c code (fun e s => (e = .normal \/ e = .ret) /\ ∃ s1, Wk s1 s /\ ∃ l, resL P s1 fn.results.toList = some l /\ R s1 l) (Fs.init nv args H))
 (hL : ∀ l, H l ≠ none -> c.L l) (w : World) (F : Nat -> Prop) (m : Loc -> Nat × Nat) (vs : List Value) (hF : ∀ y, F y -> y < w.heap.size) (hG : a5g c.G F w) (hv : RFs w F (fun l => H l ≠ none) m args vs) (hH : HeapR w F m H) :
 Calls P f vs.toArray w fun e w' => ∃ (v : Value) (s1 : Fs) (l : List FV) (F' : Nat -> Prop) (m' : Loc -> Nat × Nat) (a : Act), e = .returned v /\ R s1 l /\ (∀ y, F y -> F' y) /\ (∀ y, F' y -> F y \/ w.heap.size <= y) /\ RelX ⟨w, F, H, m⟩ F' m' s1 a w' /\
  RF w' F' (fun l => s1.H l ≠ none) m' (a0p l) v :=
 d9w hf hb hN hargs hnv (fun X Q' hQ a w hr => a7x code _ _ hQ _ a w hr h) hL w F m vs hF hG hv hH
def KEnd (P : Program) (res : List ResultVar) (r : FV) (H' : Heap) (e : Exit) (s : Fs) : Prop :=
 (e = .normal \/ e = .ret) /\ ∃ s1, Wk s1 s /\ ∃ l, resL P s1 res = some l /\ (s1.H = H' /\ a0p l = r)
theorem h0u {H' : Heap} (hf : P.funcs[f]? = some fn) (hb : fn.body = some code) (hN : c.N = fn.ntmps)
 (hargs : args.length <= nv) (hnv : nv <= fn.ntmps) (hL : ∀ l, H l ≠ none -> c.L l) (h : a0z P c code (KEnd P fn.results.toList r H') (Fs.init nv args H)) : FC P c.G f args H r H' := by
 intro w F m vs hF hG hv hH
 refine (d0p hf hb hN hargs hnv h hL w F m vs hF hG hv hH).mono ?_
 rintro e w' ⟨v, s1, l, F', m', a, rfl, ⟨rfl, rfl⟩, k1, k2, hR, hv2⟩
 refine ⟨v, F', m', rfl, k1, fun y hy => ⟨k2 y hy, hR.frz y hy⟩, fun l hl => ⟨hR.mfix l hl, hR.ext l hl⟩, hv2, hR.heap, fun l hl => ?_, hR.size, fun y hy hn => hR.keep y hy fun ⟨l, h1, h2⟩ => hn l h1 h2, hR.os, hR.tape, hR.output⟩
 rcases hR.own l hl with ⟨k, h1, h2⟩ | h1
 . exact .inl ⟨k, h1, h2⟩
 . exact .inr h1
mutual
def nl : FV -> Bool
 | .undef | .int .. | .bool _ | .str _ | .nilp | .nils | .nilm | .nilf | .emp => true
 | .list _ xs => nlss xs
 | .ref cs => nls cs
 | .agg cs => nls cs
 | .tup cs => nls cs
 | .clo _ a b => nls a && nls b
 | .ptr .. | .sl .. | .mp _ => false
def nls : List FV -> Bool
 | [] => true
 | x :: xs => nl x && nls xs
def nlss : List (List FV) -> Bool
 | [] => true
 | x :: xs => nls x && nlss xs
end
theorem c5w (l : List FV) : nls l = l.all nl := by
 induction l with
 | nil => rfl
 | cons x l ih => simp [nls, ih]
theorem a5b (l : List (List FV)) : nlss l = nls l.flatten := by
 induction l with
 | nil => rfl
 | cons x l ih => simp only [nlss, ih, A0l, c5w, List.all_append]
section
variable {w w' : World} {F F' : Nat -> Prop} {U U' : Loc -> Prop} {m m' : Loc -> Nat × Nat}
mutual
theorem RF.nameless {a : FV} {v : Value} (h : RF w F U m a v) (ha : nl a = true) (U' : Loc -> Prop) (m' : Loc -> Nat × Nat) : RF w F U' m' a v :=
 match h with
 | .undef v => .undef v
 | .int k n => .int k n
 | .bool b => .bool b
 | .str s => .str s
 | .list sz xs A cap vs hl hc hm h => .list sz xs A cap vs hl hc hm (RFs.nameless h (by rw [nl, a5b] at ha; exact ha) U' m')
 | .ref cs a vs hF hm h => .ref cs a vs hF hm (RFs.nameless h ha U' m')
 | .agg cs vs h => .agg cs vs (RFs.nameless h ha U' m')
 | .tup cs vs h => .tup cs vs (RFs.nameless h ha U' m')
 | .ptr .. => by simp [nl] at ha
 | .nilp => .nilp
 | .sl .. => by simp [nl] at ha
 | .sl0 .. => by simp [nl] at ha
 | .nils => .nils
 | .mp .. => by simp [nl] at ha
 | .nilm => .nilm
 | .clo f first caps us vs h1 h2 => by
   simp only [nl, A5t] at ha
   exact .clo f first caps us vs (RFs.nameless h1 ha.1 U' m') (RFs.nameless h2 ha.2 U' m')
 | .nilf => .nilf
 | .emp A => .emp A
theorem RFs.nameless {as : List FV} {vs : List Value} (h : RFs w F U m as vs) (ha : nls as = true) (U' : Loc -> Prop) (m' : Loc -> Nat × Nat) : RFs w F U' m' as vs :=
 match h with
 | .nil => .nil
 | .cons a v as vs h hs => by
   simp only [nls, A5t] at ha
   exact .cons a v as vs (RF.nameless h ha.1 U' m') (RFs.nameless hs ha.2 U' m')
end
end
mutual
def frz (H : Heap) : Nat -> FV -> Option FV
 | 0, _ => none
 | n + 1, .sl l sz off len => match H l with
   | some (.cells _ sz' xs) => if decide (sz' = sz) && decide (off + len <= xs.length) then (frzR H n ((xs.drop off).take len)).map (.list sz) else none
   | _ => none
 | n + 1, .agg cs => if nls cs then some (.agg cs) else (frzs H n cs).map .agg
 | n + 1, .tup cs => if nls cs then some (.tup cs) else (frzs H n cs).map .tup
 | _ + 1, v => if nl v then some v else none
def frzs (H : Heap) : Nat -> List FV -> Option (List FV)
 | 0, _ => none
 | _ + 1, [] => some []
 | n + 1, x :: xs => (frz H n x).bind fun y => (frzs H n xs).map (y :: ·)
def frzR (H : Heap) : Nat -> List (List FV) -> Option (List (List FV))
 | 0, _ => none
 | n + 1, xs => if nlss xs then some xs else match xs with
   | [] => some []
   | x :: xs => (frzs H n x).bind fun y => (frzR H n xs).map (y :: ·)
end
def frzF (F : Nat -> Prop) (H : Heap) (m : Loc -> Nat × Nat) : Nat -> Prop := fun b => F b \/ ∃ l, Live H m l /\ (m l).1 = b
section
variable {w w' : World} {F F' : Nat -> Prop} {U U' : Loc -> Prop} {m m' : Loc -> Nat × Nat} {H : Heap}
theorem RF.up {a : FV} {v : Value} (h : RF w F U m a v) (ha : nl a = true) : RF w (frzF F H m) (fun _ => False) m' a v :=
 (h.keep (w' := w) (F' := frzF F H m) (U' := U) (m' := m) (fun _ h => .inl h) (fun _ _ => rfl) (fun _ h => h) (fun _ _ => rfl)).nameless ha _ _
theorem RFs.up {a : List FV} {v : List Value} (h : RFs w F U m a v) (ha : nls a = true) : RFs w (frzF F H m) (fun _ => False) m' a v :=
 (h.keep (w' := w) (F' := frzF F H m) (U' := U) (m' := m) (fun _ h => .inl h) (fun _ _ => rfl) (fun _ h => h) (fun _ _ => rfl)).nameless ha _ _
theorem a7a {α : Type} {sz : Nat} : ∀ (n : Nat) (xs : List (List α)), (∀ x ∈ xs, x.length = sz) -> (xs.drop n).flatten = xs.flatten.drop (n * sz)
 | 0, xs, _ => by simp
 | n + 1, [], _ => by simp
 | n + 1, y :: ys, hl => by
   have hy := hl y yd
   rw [List.drop_succ_cons, a7a n ys (fun x hx => hl x wo), A0l, A1d, A3b, A3v, <- A5i]
   rw [show (y ++ ys.flatten).drop sz = ys.flatten by rw [<- hy]; simp]
theorem a6v {α : Type} {sz : Nat} : ∀ (n : Nat) (xs : List (List α)), (∀ x ∈ xs, x.length = sz) -> (xs.take n).flatten = xs.flatten.take (n * sz)
 | 0, xs, _ => by simp
 | n + 1, [], _ => by simp
 | n + 1, y :: ys, hl => by
   have hy := hl y yd
   rw [List.take_succ_cons, A0l, a6v n ys (fun x hx => hl x wo), A0l, A1d, A3b, A3v, <- hy, A3z]
theorem c4e (hH : HeapR w F m H) : ∀ (n : Nat),
 (∀ (x y : FV) (v : Value), frz H n x = some y -> RF w F (fun l => H l ≠ none) m x v -> RF w (frzF F H m) (fun _ => False) m' y v /\ nl y = true) /\
 (∀ (xs ys : List FV) (vs : List Value), frzs H n xs = some ys -> RFs w F (fun l => H l ≠ none) m xs vs -> RFs w (frzF F H m) (fun _ => False) m' ys vs /\ nls ys = true) /\
 (∀ (xs ys : List (List FV)) (vs : List Value), frzR H n xs = some ys -> RFs w F (fun l => H l ≠ none) m xs.flatten vs -> RFs w (frzF F H m) (fun _ => False) m' ys.flatten vs /\ nlss ys = true /\ ys.length = xs.length /\ ∀ sz, (∀ x ∈ xs, x.length = sz) -> ∀ y ∈ ys, y.length = sz)
 | 0 => ⟨fun _ _ _ h => by simp [frz] at h, fun _ _ _ h => by simp [frzs] at h, fun _ _ _ h => by simp [frzR] at h⟩
 | n + 1 => by
   obtain ⟨i1, i2, i3⟩ := c4e hH n
   refine ⟨fun x y v h hx => ?_, fun xs ys vs h hx => ?_, fun xs ys vs h hx => ?_⟩
   . have c5u : ∀ z, nl z = true -> z = y -> RF w F (fun l => H l ≠ none) m z v -> RF w (frzF F H m) (fun _ => False) m' y v /\ nl y = true := fun z hz e hr => by subst e; exact ⟨hr.up hz, hz⟩
     cases x with
     | sl l sz off len =>
       simp only [frz] at h
       split at h
       . rename_i T sz' xs hl
         split at h
         . rename_i hc
           simp only [A5t, A5w] at hc
           obtain ⟨rfl, hlen⟩ := hc
           rw [A5q] at h
           obtain ⟨ys, hys, rfl⟩ := h
           have hcl : ((xs.drop off).take len).length = len := by simp; omega
           rcases hH.obj l _ hl with ⟨rfl, h0⟩ | ⟨h0, c, g1, g2, g3, g4, g5⟩
           . have hl0 : len = 0 := by simp at hlen; omega
             subst hl0
             have := i3 _ _ [] hys (by simpa using RFs.nil)
             have hy0 : ys = [] := A5u (by simpa using this.2.2.1)
             subst hy0
             refine ⟨?_, rfl⟩
             cases hx with
             | sl _ _ _ _ cap o hu hcap ho hs => exact .list sz' [] _ cap [] yd yd yd .nil
             | sl0 => exact .list sz' [] _ 0 [] yd yd yd .nil
           . have hpart := (g5.drop (off * sz')).take (len * sz')
             rw [<- a7a off xs g3, <- a6v len _ (fun x hx => g3 x (A1n hx))] at hpart
             obtain ⟨k1, k2, k3, k4⟩ := i3 _ _ _ hys hpart
             have k4 := k4 sz' (fun x hx => g3 x (A1n (A0t hx)))
             rw [hcl] at k3
             refine ⟨?_, by simpa [nl] using k2⟩
             have hlive : Live H m l := ⟨_, hl, by simp, h0⟩
             cases hx with
             | sl _ _ _ _ cap o hu hcap ho hs =>
               have := RF.list (w := w) (F := frzF F H m) (U := fun _ => False) (m := m') sz' ys (some ⟨(m l).1, o, none⟩) cap _ k4 ya (fun hne => ?_) k1
               . rw [k3] at this; exact this
               . have hpos : 0 < len := by
                  rcases A1v len with e | e
                  . exact absurd (A5u ya) hne
                  . exact e
                 have ho' : o = off * sz' := ho.resolve_left ya
                 refine ⟨_, rfl, .inr ⟨l, hlive, rfl⟩, fun j u hj => ?_⟩
                 rw [A0p] at hj
                 split at hj
                 . rename_i hjl
                   rw [A2c, A0p] at hj
                   split at hj
                   . rw [add0, a5a g1, ho']; simpa using hj
                   . cases hj
                 . cases hj
             | sl0 _ _ _ _ hu h00 => exact absurd h00 h0
         . cases h
       . cases h
     | agg cs =>
       simp only [frz] at h
       split at h
       . rename_i hc
         exact c5u (.agg cs) hc zl hx
       . rw [A5q] at h
         obtain ⟨ys, hys, rfl⟩ := h
         cases hx with
         | agg _ vs hvs =>
         obtain ⟨k1, k2⟩ := i2 _ _ _ hys hvs
         exact ⟨.agg ys vs k1, k2⟩
     | tup cs =>
       simp only [frz] at h
       split at h
       . rename_i hc
         exact c5u (.tup cs) hc zl hx
       . rw [A5q] at h
         obtain ⟨ys, hys, rfl⟩ := h
         cases hx with
         | tup _ vs hvs =>
         obtain ⟨k1, k2⟩ := i2 _ _ _ hys hvs
         exact ⟨.tup ys vs k1, k2⟩
     | _ =>
       simp only [frz] at h
       split at h
       . rename_i hc
         exact c5u _ hc zl hx
       . cases h
   . cases xs with
     | nil =>
       simp only [frzs, A5v] at h
       subst h
       cases hx
       exact ⟨.nil, rfl⟩
     | cons x xs' =>
       simp only [frzs] at h
       rw [A1h] at h
       obtain ⟨y, hy, h⟩ := h
       rw [A5q] at h
       obtain ⟨ys', hys, rfl⟩ := h
       cases hx with
       | cons _ v _ vs hv hvs =>
       obtain ⟨k1, k2⟩ := i1 _ _ _ hy hv
       obtain ⟨k3, k4⟩ := i2 _ _ _ hys hvs
       exact ⟨.cons _ _ _ _ k1 k3, by simp [nls, k2, k4]⟩
   . simp only [frzR] at h
     split at h
     . rename_i hc
       obtain rfl := by simpa using h
       exact ⟨hx.up (by rw [<- a5b]; exact hc), hc, rfl, fun sz hl => hl⟩
     . rename_i hc
       cases xs with
       | nil => exact absurd rfl hc
       | cons x xs2 =>
         simp only at h
         rw [A1h] at h
         obtain ⟨y, hy, h⟩ := h
         rw [A5q] at h
         obtain ⟨ys', hys, rfl⟩ := h
         rw [A0l] at hx
         obtain ⟨v1, v2, rfl, g1, g2⟩ := RFs.part x xs2.flatten hx
         obtain ⟨k1, k2⟩ := i2 _ _ _ hy g1
         obtain ⟨k3, k4, k5, k6⟩ := i3 _ _ _ hys g2
         refine ⟨by rw [A0l]; exact k1.append k3, by simp [nlss, k2, k4], by simp [k5], fun sz hl z hz => ?_⟩
         rcases A0m.1 hz with rfl | hz
         . rw [k1.length, <- g1.length]; exact hl x yd
         . exact k6 sz (fun q hq => hl q (by simp [hq])) z hz
end
mutual
def asR : FV -> FV -> Prop
 | .nils, r => r = .nils \/ ∃ sz, r = .list sz []
 | .agg cs, r => ∃ ds, r = .agg ds /\ asRs cs ds
 | .tup cs, r => ∃ ds, r = .tup ds /\ asRs cs ds
 | v, r => r = v
def asRs : List FV -> List FV -> Prop
 | [], l => l = []
 | x :: xs, l => ∃ y ys, l = y :: ys /\ asR x y /\ asRs xs ys
end
section
variable {w w' : World} {F F' : Nat -> Prop} {U U' : Loc -> Prop} {m m' : Loc -> Nat × Nat} {P : Program}
mutual
theorem RF.asR {x y : FV} {v : Value} (h : RF w F U m x v) (hr : asR x y) : RF w F U m y v := by
 cases h with
 | nils =>
   rcases hr with rfl | ⟨sz, rfl⟩
   . exact .nils
   . exact .list sz [] none 0 [] yd yd yd .nil
 | agg cs vs h =>
   obtain ⟨ds, rfl, hds⟩ := hr
   exact .agg ds vs (RFs.asR h hds)
 | tup cs vs h =>
   obtain ⟨ds, rfl, hds⟩ := hr
   exact .tup ds vs (RFs.asR h hds)
 | undef v => have e : y = .undef := hr; subst e; exact .undef v
 | int k n => have e : y = .int k n := hr; subst e; exact .int k n
 | bool b => have e : y = .bool b := hr; subst e; exact .bool b
 | str s => have e : y = .str s := hr; subst e; exact .str s
 | list sz xs A cap vs hl hc hm h => have e : y = .list sz xs := hr; subst e; exact .list sz xs A cap vs hl hc hm h
 | ref cs a vs hF hm h => have e : y = .ref cs := hr; subst e; exact .ref cs a vs hF hm h
 | ptr l sz i off hu => have e : y = .ptr l sz i off := hr; subst e; exact .ptr l sz i off hu
 | nilp => have e : y = .nilp := hr; subst e; exact .nilp
 | sl l sz off len cap o hu hc ho hs => have e : y = .sl l sz off len := hr; subst e; exact .sl l sz off len cap o hu hc ho hs
 | sl0 l sz off A hu h0 => have e : y = .sl l sz off 0 := hr; subst e; exact .sl0 l sz off A hu h0
 | mp l hu => have e : y = .mp l := hr; subst e; exact .mp l hu
 | nilm => have e : y = .nilm := hr; subst e; exact .nilm
 | clo f a b us vs h1 h2 => have e : y = .clo f a b := hr; subst e; exact .clo f a b us vs h1 h2
 | nilf => have e : y = .nilf := hr; subst e; exact .nilf
 | emp A => have e : y = .emp := hr; subst e; exact .emp A
theorem RFs.asR {xs ys : List FV} {vs : List Value} (h : RFs w F U m xs vs) (hr : asRs xs ys) : RFs w F U m ys vs := by
 cases h with
 | nil => have e : ys = [] := hr; subst e; exact .nil
 | cons a v as vs h hs =>
   obtain ⟨y, ys', rfl, h1, h2⟩ := hr
   exact .cons y v ys' vs (RF.asR h h1) (RFs.asR hs h2)
end
def PC (P : Program) (G : List (Nat × List Value)) (f : FuncId) (args : List FV) (r : FV) : Prop := FC P G f args noH r noH
def PEnd (P : Program) (res : List ResultVar) (r : FV) (e : Exit) (s : Fs) : Prop :=
 (e = .normal \/ e = .ret) /\ ∃ s1, Wk s1 s /\ ∃ l, resL P s1 res = some l /\ ∃ n y, frz s1.H n (a0p l) = some y /\ asR y r
theorem a6f (w : World) (F : Nat -> Prop) (m : Loc -> Nat × Nat) : HeapR w F m noH :=
 ⟨fun _ _ h => zr, fun _ _ ⟨_, h, _⟩ => zr, fun _ ⟨_, h, _⟩ => zr⟩
theorem h0m (hf : P.funcs[f]? = some fn) (hb : fn.body = some code) (hN : c.N = fn.ntmps)
 (hargs : args.length <= nv) (hnv : nv <= fn.ntmps) (h : a0z P c code (PEnd P fn.results.toList r) (Fs.init nv args noH)) : PC P c.G f args r := by
 intro w F m vs hF hG hv hH
 refine (d0p hf hb hN hargs hnv h (fun _ h => absurd rfl h) w F m vs hF hG hv hH).mono ?_
 rintro e w' ⟨v, s1, l, F', m', a, rfl, ⟨n, y, hy, hr⟩, k1, k2, hR, hv2⟩
 have hnol : ∀ b, ¬ Ctx.lent ⟨w, F, noH, m⟩ b := fun b ⟨l, ⟨_, h, _⟩, _⟩ => by cases h
 obtain ⟨g1, _⟩ := (c4e (m' := m') hR.heap n).1 _ _ _ hy hv2
 refine ⟨v, frzF F' s1.H m', m', rfl, fun y hy => .inl (k1 y hy), fun y hy => ?_, fun l hl => absurd rfl hl, ?_, a6f _ _ _, fun l ⟨_, h, _⟩ => zr, hR.size, fun y hy _ => hR.keep y hy (hnol y), hR.os, hR.tape, hR.output⟩
 . rcases hy with hy | ⟨l, hl, rfl⟩
   . exact ⟨k2 y hy, hR.frz y hy⟩
   . exact ⟨.inr ((hR.own l hl).resolve_left (hnol _)), (hR.heap.old l hl).1⟩
 . exact (g1.asR hr).keep (fun _ h => h) (fun _ _ => rfl) (fun _ h => h.elim) (fun _ h => h.elim)
theorem PC.lift {G : List (Nat × List Value)} (h : PC P G f args r) (ha : nls args = true) (H : Heap) : FC P G f args H r H := by
 intro w F m vs hF hG hv hH
 refine (h w F m vs hF hG (hv.nameless ha _ _) (a6f _ _ _)).mono ?_
 rintro e w' ⟨v, F', m', he, k1, k2, _, k4, _, _, k7, k8, k9, k10, k11⟩
 have hold : ∀ y, y < w.heap.size -> w'.heap[y]? = w.heap[y]? := fun y hy => k8 y hy fun l ⟨_, h, _⟩ => by cases h
 have hR : HeapR w' F' m H := by
  have hF' : ∀ b, F b -> w'.heap[b]? = w.heap[b]? := fun b hb => hold b (hF b hb)
  refine ⟨fun l o ho => ?_, hH.inj, fun l hl => ⟨by have := (hH.old l hl).1; omega, fun hFl => ?_⟩⟩
  . exact (hH.obj l o ho).keep k1 hF' (fun _ h => h) (fun _ _ => rfl) rfl (fun hd h0 => hold _ (hH.old l ⟨o, ho, hd, h0⟩).1)
  . have := hH.old l hl
    rcases (k2 _ hFl).1 with h1 | h1
    . exact this.2 h1
    . omega
 exact ⟨v, F', m, he, k1, k2, fun l hl => ⟨rfl, hl⟩, k4.keep (fun _ h => h) (fun _ _ => rfl) (fun l hl => absurd rfl hl) (fun l hl => absurd rfl hl), hR, fun l hl => .inl ⟨l, hl, rfl⟩, k7, fun y hy _ => hold y hy, k9, k10, k11⟩
def sca : FV -> Bool
 | .int .. | .bool _ | .str _ => true
 | .tup cs => cs.all fun | .int .. | .bool _ | .str _ => true | _ => false
 | .agg cs => cs.all fun | .int .. | .bool _ | .str _ => true | _ => false
 | _ => false
theorem RFs.scas {cs : List FV} {vs : List Value} (h : RFs w F U m cs vs) (hs : (cs.all fun | .int .. | .bool _ | .str _ => true | _ => false) = true) (w' : World) (F' : Nat -> Prop) (U' : Loc -> Prop) (m' : Loc -> Nat × Nat) : RFs w' F' U' m' cs vs := by
 match h with
 | .nil => exact .nil
 | .cons a v as vs h hs' =>
   simp only [A3i, A5t] at hs
   have h1 : RF w' F' U' m' a v := by cases h <;> first | (simp at hs; done) | exact RF.int _ _ | exact RF.bool _ | exact RF.str _
   exact RFs.cons a v as vs h1 (RFs.scas hs' hs.2 w' F' U' m')
theorem RF.scas {r : FV} {v : Value} (h : RF w F U m r v) (hs : sca r = true) (w' : World) (F' : Nat -> Prop) (U' : Loc -> Prop) (m' : Loc -> Nat × Nat) : RF w' F' U' m' r v := by
 cases h <;> first | (simp [sca] at hs; done) | exact RF.int _ _ | exact RF.bool _ | exact RF.str _ | exact RF.agg _ _ (RFs.scas ‹_› hs _ _ _ _) | exact RF.tup _ _ (RFs.scas ‹_› hs _ _ _ _)
theorem PC.lend {G : List (Nat × List Value)} {args1 args2 : List FV} {n : Nat} (hz : frzs H n args = some args1) (ha : asRs args1 args2) (h : PC P G f args2 r) (hs : sca r = true) : FC P G f args H r H := by
 intro w F m vs hF hG hv hH
 obtain ⟨g1, _⟩ := (c4e (m' := m) hH n).2.1 _ _ _ hz hv
 have g2 := (g1.asR ha).keep (w' := w) (F' := frzF F H m) (U' := fun l => noH l ≠ none) (m' := m) (fun _ h => h) (fun _ _ => rfl) (fun _ h => h.elim) (fun _ h => h.elim)
 refine (h w (frzF F H m) m vs (fun y hy => ?_) (hG.mono fun _ _ h => .inl h) g2 (a6f _ _ _)).mono ?_
 . rcases hy with hy | ⟨l, hl, rfl⟩
   . exact hF y hy
   . exact (hH.old l hl).1
 . rintro e w' ⟨v, F', m', he, k1, k2, _, k4, _, _, k7, k8, k9, k10, k11⟩
   have hold : ∀ y, y < w.heap.size -> w'.heap[y]? = w.heap[y]? := fun y hy => k8 y hy fun l ⟨_, h, _⟩ => by cases h
   have hF' : ∀ b, F b -> w'.heap[b]? = w.heap[b]? := fun b hb => hold b (hF b hb)
   have hR : HeapR w' F m H := by
    refine ⟨fun l o ho => ?_, hH.inj, fun l hl => ⟨by have := (hH.old l hl).1; omega, (hH.old l hl).2⟩⟩
    exact (hH.obj l o ho).keep (fun _ h => h) hF' (fun _ h => h) (fun _ _ => rfl) rfl (fun hd h0 => hold _ (hH.old l ⟨o, ho, hd, h0⟩).1)
   exact ⟨v, F, m, he, fun _ h => h, fun y hy => ⟨.inl hy, by have := hF y hy; omega⟩, fun l hl => ⟨rfl, hl⟩, k4.scas hs _ _ _ _, hR, fun l hl => .inl ⟨l, hl, rfl⟩, k7, fun y hy _ => hold y hy, k9, k10, k11⟩
end
end Go.FM
namespace Go.FM
open Go Go.RowKit
section
variable {P : Program} {G : List (Nat × List Value)} {f : FuncId} {A : List FV} {w w' : World} {F : Nat -> Prop} {m : Loc -> Nat × Nat} {H : Heap}
theorem HeapR.below (hH : HeapR w F m H) (hF : ∀ b, F b -> b < w.heap.size) (hb : Below w.heap.size w w') : HeapR w' F m H :=
 ⟨fun l o ho => (hH.obj l o ho).keep (fun _ h => h) (fun b hb' => hb.block b (hF b hb')) (fun _ h => h) (fun _ _ => rfl) rfl (fun hd h0 => hb.block _ (hH.old l ⟨o, ho, hd, h0⟩).1), hH.inj,
  fun l hl => ⟨A2b (hH.old l hl).1 hb.size, (hH.old l hl).2⟩⟩
theorem b5w {r : FV} (h : ∀ (w : World) (F : Nat -> Prop) (m : Loc -> Nat × Nat) (vs : List Value), (∀ b, F b -> b < w.heap.size) -> a5g G F w -> RFs w F (fun l => H l ≠ none) m A vs -> HeapR w F m H ->
 Calls P f vs.toArray w fun e w' => ∃ v, e = .returned v /\ Below w.heap.size w w' /\ RF w' F (fun l => H l ≠ none) m r v) : FC P G f A H r H := by
 intro w F m vs hF hG hv hH
 refine (h w F m vs hF hG hv hH).mono ?_
 rintro e w' ⟨v, rfl, hb, hr⟩
 exact ⟨v, F, m, rfl, fun _ h => h, fun y hy => ⟨.inl hy, A2b (hF y hy) hb.size⟩, fun l hl => ⟨rfl, hl⟩, hr, hH.below hF hb, fun l hl => .inl ⟨l, hl, rfl⟩, hb.size, fun y hy _ => hb.block y hy, hb.os, hb.tape, hb.output⟩
end
end Go.FM
namespace Go.FM
open Go
variable {A : List FV} {As : List Heap} {E T : Fs -> Prop} {G : List (Nat × List Value)} {H0 Hn : Heap} {b : Bool} {f : FuncId} {i id k n : Nat} {r : FV} {res : List ResultVar} {rs : List Loc} {y : Code} {σ : Type} {st : σ -> Fs} {x : σ} {μ : σ -> Nat}
section
variable {P : Program} {c : Cfg} {Q : Exit -> Fs -> Prop} {s : Fs} {K : Fs -> Prop} {ops : Array Oper} {o : Oper} {rest : List Oper}
def Kont (Q : Exit -> Fs -> Prop) (K : Fs -> Prop) : Prop := ∀ s', Q .normal s' -> K s'
theorem Kont.go (h : Kont Q K) (hq : Q .normal s) : K s := h _ hq
def Fend (keep : List Nat) (ops : Array Oper) (K : Fs -> Prop) (s : Fs) : Prop := K (s.clean (a2t ops) keep)
theorem g4n (h : ∀ K : Fs -> Prop, Kont Q K -> wOps P c ops ops.toList (Fend c.keep ops K) s) : a0z P c (.region id ops false) Q s := .inl (h _ fun _ h => h)
theorem f7s (Φ : Fs -> Prop) (hR : RWp P c ops s Φ) (h : ∀ s', Φ s' -> Q .normal (s'.clean (a2t ops) c.keep)) : a0z P c (.region id ops false) Q s := .inr ⟨Φ, hR, h⟩
theorem a0n (n : Nat) (hm : P.follows .mixedOrders = true) (hB : b7x ops n = true)
 (h : ∀ K : Fs -> Prop, Kont Q K -> awH P c ops n (Fend c.keep ops K) s.H [] 0 ops.toList s []) : a0z P c (.region id ops true) Q s := .inl ⟨hm, n, s.H, [], hB, fun _ _ h => h, h _ fun _ h => h⟩
theorem f1e (Φ : Fs -> Prop) (hR : RWpD P c ops s Φ) (h : ∀ s', Φ s' -> Q .normal (s'.clean (a2t ops) c.keep)) : a0z P c (.region id ops true) Q s := .inr ⟨Φ, hR, h⟩
def rmv (l0 : Loc) (H : Heap) : Heap := fun l => if l = l0 then none else H l
theorem a2r (l0 : Loc) (H : Heap) (l : Loc) : rmv l0 H l = if l = l0 then none else H l := rfl
theorem f3r (l0 : Loc) (H : Heap) : HSub (rmv l0 H) H := fun l ob hl => by
 unfold rmv at hl
 split at hl
 . cases hl
 . exact hl
def rmvs : List Loc -> Heap -> Heap
 | [], H => H
 | l :: r, H => rmv l (rmvs r H)
theorem b5f : ∀ (r : List Loc) (H : Heap), HSub (rmvs r H) H
 | [], _ => fun _ _ h => h
 | l :: r, H => fun k ob h => b5f r H k ob (f3r l _ k ob h)
theorem b9t (rs : List Loc) (n : Nat) (hm : P.follows .mixedOrders = true) (hB : b7x ops n = true)
 (h : ∀ K : Fs -> Prop, Kont Q K -> awH P c ops n (Fend c.keep ops K) (rmvs rs s.H) rs 0 ops.toList s []) : a0z P c (.region id ops true) Q s :=
 .inl ⟨hm, n, rmvs rs s.H, rs, hB, b5f rs s.H, h _ fun _ h => h⟩
theorem f7r (h : Q .normal s) : a0z P c .skip Q s := h
theorem g4m (h : Q .ret s) : a0z P c .ret Q s := h
theorem f7t (h : Q (.exit id) s) : a0z P c (.exit id) Q s := h
def KSeq (P : Program) (c : Cfg) (y : Code) (Q : Exit -> Fs -> Prop) (e : Exit) (s' : Fs) : Prop := match e with
 | .normal => a0z P c y Q s'
 | e => Q e s'
theorem h0c {x : Code} (h : a0z P c x (KSeq P c y Q) s) : a0z P c (.seq x y) Q s := h
theorem kseq (h : a0z P c y Q s) : KSeq P c y Q .normal s := h
theorem g2f (h : Q .ret s) : KSeq P c y Q .ret s := h
theorem g2g (h : Q (.exit i) s) : KSeq P c y Q (.exit i) s := h
def KBlk (id : Nat) (Q : Exit -> Fs -> Prop) (e : Exit) (s' : Fs) : Prop := match e with
 | .exit i => if i = id then Q .normal s' else Q (.exit i) s'
 | e => Q e s'
theorem g4q {b : Code} (h : a0z P c b (KBlk id Q) s) : a0z P c (.block id b) Q s := h
theorem kblk (h : Q .normal s) : KBlk id Q .normal s := h
theorem g2h (h : Q .ret s) : KBlk id Q .ret s := h
theorem e5t (h : Q .normal s) : KBlk id Q (.exit id) s := by simp only [KBlk, if_true]; exact h
theorem a2h (hne : (i == id) = false) (h : Q (.exit i) s) : KBlk id Q (.exit i) s := by
 have : i ≠ id := by simpa using hne
 simp only [KBlk, this, if_false]; exact h
theorem a4g : ∀ (code : Code) (Q Q' : Exit -> Fs -> Prop) (s : Fs), (∀ e s, Q e s -> Q' e s) -> a0z P c code Q s -> a0z P c code Q' s
 | .skip, _, _, s, hQ, h => hQ _ s h
 | .label _, _, _, s, hQ, h => hQ _ s h
 | .region _ ops false, Q, Q', s, hQ, .inr ⟨Φ, hR, h⟩ => .inr ⟨Φ, hR, fun s' hs => hQ _ _ (h s' hs)⟩
 | .region _ ops false, Q, Q', s, hQ, .inl h => by
   have mono : ∀ (l : List Oper) (s : Fs), wOps P c ops l (fun s' => Q .normal (s'.clean (a2t ops) c.keep)) s -> wOps P c ops l (fun s' => Q' .normal (s'.clean (a2t ops) c.keep)) s := by
    intro l
    induction l with
    | nil => exact fun s h => hQ _ _ h
    | cons o rest ih =>
      intro s h
      simp only [wOps] at h ⊢
      split at h
      . unfold d1y at h ⊢
        split at h
        . obtain ⟨h1, r, H', h2, s1, h3, h4⟩ := h; exact ⟨h1, r, H', h2, s1, h3, ih _ h4⟩
        . obtain ⟨s1, h1, h2⟩ := h; exact ⟨s1, h1, ih _ h2⟩
      . obtain ⟨s1, h1, h2⟩ := h; exact ⟨s1, h1, ih _ h2⟩
      . exact h
   exact .inl (mono _ _ h)
 | .region _ ops true, Q, Q', s, hQ, .inr ⟨Φ, hR, h⟩ => .inr ⟨Φ, hR, fun s' hs => hQ _ _ (h s' hs)⟩
 | .region _ ops true, Q, Q', s, hQ, .inl h => by
   have mono : ∀ (l : List Oper) (s : Fs), wOps P c ops l (fun s' => Q .normal (s'.clean (a2t ops) c.keep)) s -> wOps P c ops l (fun s' => Q' .normal (s'.clean (a2t ops) c.keep)) s := by
    intro l
    induction l with
    | nil => exact fun s h => hQ _ _ h
    | cons o rest ih =>
      intro s h
      simp only [wOps] at h ⊢
      split at h
      . unfold d1y at h ⊢
        split at h
        . obtain ⟨h1, r, H', h2, s1, h3, h4⟩ := h; exact ⟨h1, r, H', h2, s1, h3, ih _ h4⟩
        . obtain ⟨s1, h1, h2⟩ := h; exact ⟨s1, h1, ih _ h2⟩
      . obtain ⟨s1, h1, h2⟩ := h; exact ⟨s1, h1, ih _ h2⟩
      . exact h
   obtain ⟨hm, n, H0, rs, hB, hsub, hH⟩ := h
   refine .inl ⟨hm, n, H0, rs, hB, hsub, ?_⟩
   have mono2 : ∀ (H0 : Heap) (rs : List Loc) (l : List Oper) (k : Nat) (s : Fs) (As : List Heap), awH P c ops n (fun s' => Q .normal (s'.clean (a2t ops) c.keep)) H0 rs k l s As -> awH P c ops n (fun s' => Q' .normal (s'.clean (a2t ops) c.keep)) H0 rs k l s As := by
    intro H0 rs l
    induction l with
    | nil => exact fun k s As h => hQ _ _ h
    | cons o rest ih =>
      intro k s As h
      simp only [awH] at h ⊢
      split at h
      . rename_i hk
        rw [if_pos hk]
        obtain ⟨d, v, A, Hn, kl, h1, h2, h3, h4, h5, h6⟩ := h
        exact ⟨d, v, A, Hn, kl, h1, h2, h3, h4, h5, ih _ _ _ h6⟩
      . rename_i hk
        rw [if_neg hk]
        exact mono _ _ h
   exact mono2 _ _ _ _ _ _ hH
 | .seq x y, Q, Q', s, hQ, h => a4g x _ _ s (fun e s' h => by
  cases e with
  | normal => exact a4g y Q Q' s' hQ h
  | _ => exact hQ _ _ h) h
 | .cond x t e, Q, Q', s, hQ, h => by
   simp only [a0z] at h ⊢
   split at h
   . exact a4g t Q Q' s hQ h
   . exact a4g e Q Q' s hQ h
   . exact h
 | .block id b, Q, Q', s, hQ, h => a4g b _ _ s (fun e s' h => by
  cases e with
  | exit i =>
    simp only at h ⊢
    split
    . rename_i e; rw [if_pos e] at h; exact hQ _ _ h
    . rename_i e; rw [if_neg e] at h; exact hQ _ _ h
  | _ => exact hQ _ _ h) h
 | .loop b, Q, Q', s, hQ, h => by
   obtain ⟨I, h0, hr⟩ := h
   exact ⟨I, h0, fun n s hI => a4g b _ _ s (fun e s' h => by
    cases e with
    | normal => exact h
    | _ => exact hQ _ _ h) (hr n s hI)⟩
 | .exit id, _, _, s, hQ, h => hQ _ s h
 | .ret, _, _, s, hQ, h => hQ _ s h
 | .rangeFunc .., _, _, s, hQ, h => (h : False).elim
 | .scope _, _, _, s, hQ, h => (h : False).elim
 | .goto _, _, _, s, hQ, h => (h : False).elim
 | .refuse _, _, _, s, hQ, h => (h : False).elim
def c2o (c : Cfg) {σ : Type} (st : σ -> Fs) (μ : σ -> Nat) (x : σ) (Q : Exit -> Fs -> Prop) (e : Exit) (s' : Fs) : Prop := match e with
 | .normal => ∃ y, Gk c (st y) s' /\ μ y < μ x
 | e => Q e s'
theorem a5f {b : Code} (st : σ -> Fs) (μ : σ -> Nat) (x0 : σ) (h0 : Gk c (st x0) s) (round : ∀ x, a0z P c b (c2o c st μ x Q) (st x)) : a0z P c (.loop b) Q s := by
 refine ⟨fun n s => ∃ x, s = st x /\ μ x = n, ⟨μ x0, st x0, h0, x0, rfl, rfl⟩, ?_⟩
 rintro n s ⟨x, rfl, rfl⟩
 exact a4g _ _ _ _ (fun e s' h => by
  cases e with
  | normal => obtain ⟨y, hy, hm⟩ := h; exact ⟨μ y, st y, hm, hy, y, rfl, rfl⟩
  | _ => exact h) (round x)
theorem a0b (y : σ) (h : Gk c (st y) s) (hm : μ y < μ x) : c2o c st μ x Q .normal s := ⟨y, h, hm⟩
theorem f5i (h : Q .ret s) : c2o c st μ x Q .ret s := h
theorem f5j (h : Q (.exit i) s) : c2o c st μ x Q (.exit i) s := h
def StK (P : Program) (c : Cfg) (ops : Array Oper) (rest : List Oper) (K : Fs -> Prop) (s' : Option Fs) : Prop := match s' with
 | some s' => wOps P c ops rest K s'
 | none => False
def a9b (P : Program) (c : Cfg) (ops : Array Oper) (o : Oper) (rest : List Oper) (K : Fs -> Prop) (s : Fs) (f : FuncId) (b : Bool) (A : List FV) : Prop :=
 b = true /\ ∃ r H', FC P c.G f A s.H r H' /\ StK P c ops rest K (putD c o r { s with H := H' })
def DoOp (P : Program) (c : Cfg) (ops : Array Oper) (o : Oper) (rest : List Oper) (K : Fs -> Prop) (s : Fs) (x : Option (FuncId × List FV)) : Prop := match x with
 | some (f, A) => a9b P c ops o rest K s f (fnOk P f) A
 | none => StK P c ops rest K (b1p P c o s)
def GOp (P : Program) (c : Cfg) (ops : Array Oper) (o : Oper) (rest : List Oper) (K : Fs -> Prop) (s : Fs) (b : Option Bool) : Prop := match b with
 | some true => DoOp P c ops o rest K s (a0l s o)
 | some false => StK P c ops rest K (putD c o (.tup []) s)
 | none => False
theorem b4x : wOps P c ops [] K s = K s := rfl
theorem b1x : wOps P c ops (o :: rest) K s = GOp P c ops o rest K s (a0x ops o s) := by
 unfold GOp DoOp StK a9b
 simp only [wOps, d1y]
 refine propext ?_
 cases a0x ops o s with
 | none => exact Iff.rfl
 | some b =>
   cases b
   . simp only
     cases putD c o (.tup []) s <;> simp
   . simp only
     cases hc : a0l s o with
     | none => simp only; cases b1p P c o s <;> simp
     | some x =>
       obtain ⟨f, A⟩ := x
       simp only
       refine ⟨fun ⟨h1, r, H', h2, s1, h3, h4⟩ => ⟨h1, r, H', h2, by rw [h3]; exact h4⟩, fun ⟨h1, r, H', h2, h3⟩ => ⟨h1, r, H', h2, ?_⟩⟩
       cases hp : putD c o r { s with H := H' } with
       | none => rw [hp] at h3; exact h3.elim
       | some s1 => rw [hp] at h3; exact ⟨s1, rfl, h3⟩
theorem e8t : GOp P c ops o rest K s (some true) = DoOp P c ops o rest K s (a0l s o) := rfl
theorem e8u : GOp P c ops o rest K s (some false) = StK P c ops rest K (putD c o (.tup []) s) := rfl
theorem d1w : DoOp P c ops o rest K s none = StK P c ops rest K (b1p P c o s) := rfl
theorem d1x {f : FuncId} {A : List FV} : DoOp P c ops o rest K s (some (f, A)) = a9b P c ops o rest K s f (fnOk P f) A := rfl
theorem a3h {H' : Heap} (hfc : FC P c.G f A s.H r H') (h : StK P c ops rest K (putD c o r { s with H := H' })) : a9b P c ops o rest K s f true A := ⟨rfl, r, H', hfc, h⟩
theorem a1v (hpc : PC P c.G f A r) (ha : nls A = true) (h : StK P c ops rest K (putD c o r s)) : a9b P c ops o rest K s f true A := ⟨rfl, r, s.H, hpc.lift ha _, h⟩
theorem c4q {A1 A2 : List FV} (n : Nat) (hpc : PC P c.G f A2 r) (hz : frzs s.H n A = some A1) (ha : asRs A1 A2) (hs : sca r = true) (h : StK P c ops rest K (putD c o r s)) : a9b P c ops o rest K s f true A := ⟨rfl, r, s.H, hpc.lend hz ha hs, h⟩
theorem g8g (h : DoOp P c ops o rest K s (a0l s o)) : GOp P c ops o rest K s (some true) := h
theorem g8h (h : StK P c ops rest K (putD c o (.tup []) s)) : GOp P c ops o rest K s (some false) := h
theorem f0g (ht : b = true -> DoOp P c ops o rest K s (a0l s o)) (hf : b = false -> StK P c ops rest K (putD c o (.tup []) s)) : GOp P c ops o rest K s (some b) := by
 cases b
 . exact hf rfl
 . exact ht rfl
theorem d0g (ht : b = false -> DoOp P c ops o rest K s (a0l s o)) (hf : b = true -> StK P c ops rest K (putD c o (.tup []) s)) : GOp P c ops o rest K s (some !b) := by
 cases b
 . exact ht rfl
 . exact hf rfl
theorem e6g {p : Prop} [Decidable p] (ht : p -> DoOp P c ops o rest K s (a0l s o)) (hf : ¬ p -> StK P c ops rest K (putD c o (.tup []) s)) : GOp P c ops o rest K s (some (decide p)) :=
 f0g (fun h => ht (of_decide_eq_true h)) (fun h => hf (of_decide_eq_false h))
theorem d9d {p : Prop} [Decidable p] (ht : ¬ p -> DoOp P c ops o rest K s (a0l s o)) (hf : p -> StK P c ops rest K (putD c o (.tup []) s)) : GOp P c ops o rest K s (some !decide p) :=
 d0g (fun h => ht (of_decide_eq_false h)) (fun h => hf (of_decide_eq_true h))
def KT (P : Program) (c : Cfg) (x : Code) (Q : Exit -> Fs -> Prop) (T : Fs -> Prop) : Prop := ∀ s, a0z P c x Q s -> T s
theorem KT.go {x : Code} (h : KT P c x Q T) (hq : a0z P c x Q s) : T s := h _ hq
def b1v (T E : Fs -> Prop) (s : Fs) (b : Option Bool) : Prop := match b with
 | some true => T s
 | some false => E s
 | none => False
theorem g4p {x : Operand} {t e : Code} (h : ∀ T E : Fs -> Prop, KT P c t Q T -> KT P c e Q E -> b1v T E s (b8q s x)) : a0z P c (.cond x t e) Q s := by
 have := h _ _ (fun _ h => h) (fun _ h => h)
 simp only [a0z]
 unfold b1v at this
 cases hc : b8q s x with
 | none => rw [hc] at this; exact this
 | some b => rw [hc] at this; cases b <;> exact this
theorem g3u (h : T s) : b1v T E s (some true) := h
theorem g3v (h : E s) : b1v T E s (some false) := h
theorem f0y (ht : b = true -> T s) (hf : b = false -> E s) : b1v T E s (some b) := by
 cases b
 . exact hf rfl
 . exact ht rfl
theorem f0x (ht : b = false -> T s) (hf : b = true -> E s) : b1v T E s (some !b) := by
 cases b
 . exact ht rfl
 . exact hf rfl
theorem g3w {T E : Fs -> Prop} {p : Prop} [Decidable p] (ht : p -> T s) (hf : ¬ p -> E s) : b1v T E s (some (decide p)) := f0y (fun h => ht (of_decide_eq_true h)) (fun h => hf (of_decide_eq_false h))
theorem f6q {T E : Fs -> Prop} {p : Prop} [Decidable p] (ht : ¬ p -> T s) (hf : p -> E s) : b1v T E s (some !decide p) := f0x (fun h => ht (of_decide_eq_false h)) (fun h => hf (of_decide_eq_true h))
def b8p (P : Program) (c : Cfg) (o : Oper) (s : Fs) : Option (FV × Heap) := (wv P s.H (c.nm (o.dst.getD 0) s.ix) (rv s) o).map fun x => (x.2, upds noH x.1)
def HNx (P : Program) (c : Cfg) (ops : Array Oper) (n : Nat) (K : Fs -> Prop) (H0 : Heap) (rs : List Loc) (k : Nat) (o : Oper) (rest : List Oper) (s : Fs) (As : List Heap) (x : Option (FV × Heap)) : Prop := match x, o.dst with
 | some (v, A), some d => d < c.N /\ (∀ l, A l ≠ none -> s.H l = none) /\ awH P c ops n K H0 rs (k + 1) rest ({ s with H := ext s.H A }.put d v) (As ++ [A])
 | _, _ => False
def HCl (P : Program) (c : Cfg) (ops : Array Oper) (n : Nat) (K : Fs -> Prop) (H0 : Heap) (rs : List Loc) (k : Nat) (o : Oper) (rest : List Oper) (s : Fs) (As : List Heap) (Hn : Heap) (f : FuncId) (b : Bool) (A : List FV) : Prop :=
 b = true /\ ∃ v B, (∀ H2, HSub Hn H2 -> (∀ l, B l ≠ none -> H2 l = none) -> FC P c.G f A H2 v (ext H2 B)) /\ HNx P c ops n K H0 rs k o rest s As (some (v, B))
def HDo (P : Program) (c : Cfg) (ops : Array Oper) (n : Nat) (K : Fs -> Prop) (H0 : Heap) (rs : List Loc) (k : Nat) (o : Oper) (rest : List Oper) (s : Fs) (As : List Heap) (Hn : Heap) (x : Option (FuncId × List FV)) : Prop := match x with
 | some (f, A) => HCl P c ops n K H0 rs k o rest s As Hn f (fnOk P f) A
 | none => HNx P c ops n K H0 rs k o rest s As (b8p P c o { s with H := Hn })
def HG (P : Program) (c : Cfg) (ops : Array Oper) (n : Nat) (K : Fs -> Prop) (H0 : Heap) (rs : List Loc) (k : Nat) (o : Oper) (rest : List Oper) (s : Fs) (As : List Heap) (Hn : Heap) (b : Option Bool) : Prop := match b with
 | some true => HDo P c ops n K H0 rs k o rest s As Hn (a0l s o)
 | some false => HNx P c ops n K H0 rs k o rest s As (some (.tup [], noH))
 | none => False
theorem b0r {sn : Fs} {d : Nat} {v : FV} {A : Heap} (hg : a0x ops o sn = some true) (hc : a0l sn o = none) (hd : o.dst = some d) (hN : d < c.N) (h : b8p P c o sn = some (v, A)) : Calm P c ops o sn d v A := by
 unfold b8p at h
 rw [A5q] at h
 obtain ⟨⟨us, v'⟩, hv, h⟩ := h
 simp only [A0i] at h
 obtain ⟨rfl, rfl⟩ := h
 exact f6w hg hc hd hN (by rw [hd, A5z] at hv; exact hv)
theorem f7u (Hn : Heap) (hrs : ∀ l : Loc, l ∉ rs) (hk : k < n) (hd : b1q ops n k o = true) (hneed : ∀ l ob, Hn l = some ob -> H0 l = some ob \/ ∃ j Aj, As[j]? = some Aj /\ a2z o j = true /\ Aj l = some ob)
 (h : HG P c ops n K H0 rs k o rest s As Hn (a0x ops o s)) : awH P c ops n K H0 rs k (o :: rest) s As := by
 simp only [awH, hk, if_true]
 unfold HG HDo HCl at h
 have hgs : a0x ops o { s with H := Hn } = a0x ops o s := rfl
 have hcs : a0l { s with H := Hn } o = a0l s o := rfl
 cases hg : a0x ops o s with
 | none => rw [hg] at h; exact h.elim
 | some b =>
   rw [hg] at h
   cases b
   . simp only [HNx] at h
     cases hdst : o.dst with
     | none => rw [hdst] at h; exact h.elim
     | some d =>
       rw [hdst] at h
       obtain ⟨h1, h2, h3⟩ := h
       exact ⟨d, _, noH, Hn, _, (c2c (hgs.trans hg) hdst h1).two, hd, fun l hl => .inr (h2 l hl), fun _ h => h.elim, fun l ob hl => (hneed l ob hl).imp_right fun h => .inr ⟨hrs l, h⟩, h3⟩
   . simp only at h
     cases hc : a0l s o with
     | none =>
       rw [hc] at h
       simp only [HNx] at h
       split at h
       . rename_i v A d hm hdst
         obtain ⟨h1, h2, h3⟩ := h
         exact ⟨d, v, A, Hn, _, (b0r (hgs.trans hg) (hcs.trans hc) hdst h1 hm).two, hd, fun l hl => .inr (h2 l hl), fun _ h => h.elim, fun l ob hl => (hneed l ob hl).imp_right fun h => .inr ⟨hrs l, h⟩, h3⟩
       . exact h.elim
     | some x =>
       obtain ⟨f, A⟩ := x
       rw [hc] at h
       simp only at h
       obtain ⟨hf, v, B, hfc, h⟩ := h
       simp only [HNx] at h
       cases hdst : o.dst with
       | none => rw [hdst] at h; exact h.elim
       | some d =>
         rw [hdst] at h
         obtain ⟨h1, h2, h3⟩ := h
         exact ⟨d, v, B, Hn, _, (b8b (hgs.trans hg) (hcs.trans hc) hf hdst h1 hfc).two, hd, fun l hl => .inr (h2 l hl), fun _ h => h.elim, fun l ob hl => (hneed l ob hl).imp_right fun h => .inr ⟨hrs l, h⟩, h3⟩
theorem a6p (hk : k < n) (hd : b1q ops n k o = true) (h : HG P c ops n K H0 rs k o rest s As H0 (a0x ops o s)) : awH P c ops n K H0 rs k (o :: rest) s As := by
 simp only [awH, hk, if_true]
 unfold HG HDo HCl at h
 have hgs : a0x ops o { s with H := H0 } = a0x ops o s := rfl
 have hcs : a0l { s with H := H0 } o = a0l s o := rfl
 cases hg : a0x ops o s with
 | none => rw [hg] at h; exact h.elim
 | some b =>
   rw [hg] at h
   cases b
   . simp only [HNx] at h
     cases hdst : o.dst with
     | none => rw [hdst] at h; exact h.elim
     | some d =>
       rw [hdst] at h
       obtain ⟨h1, h2, h3⟩ := h
       exact ⟨d, _, noH, H0, _, (c2c (hgs.trans hg) hdst h1).two, hd, fun l hl => .inr (h2 l hl), fun _ h => h.elim, fun l ob hl => .inl hl, h3⟩
   . simp only at h
     cases hc : a0l s o with
     | none =>
       rw [hc] at h
       simp only [HNx] at h
       split at h
       . rename_i v A d hm hdst
         obtain ⟨h1, h2, h3⟩ := h
         exact ⟨d, v, A, H0, _, (b0r (hgs.trans hg) (hcs.trans hc) hdst h1 hm).two, hd, fun l hl => .inr (h2 l hl), fun _ h => h.elim, fun l ob hl => .inl hl, h3⟩
       . exact h.elim
     | some x =>
       obtain ⟨f, A⟩ := x
       rw [hc] at h
       simp only at h
       obtain ⟨hf, v, B, hfc, h⟩ := h
       simp only [HNx] at h
       cases hdst : o.dst with
       | none => rw [hdst] at h; exact h.elim
       | some d =>
         rw [hdst] at h
         obtain ⟨h1, h2, h3⟩ := h
         exact ⟨d, v, B, H0, _, (b8b (hgs.trans hg) (hcs.trans hc) hf hdst h1 hfc).two, hd, fun l hl => .inr (h2 l hl), fun _ h => h.elim, fun l ob hl => .inl hl, h3⟩
theorem a3e {l : List Oper} (hk : ¬ k < n) (h : wOps P c ops l K s) : awH P c ops n K H0 rs k l s As := by
 cases l with
 | nil => exact h
 | cons o rest => simp only [awH, hk, if_false]; exact h
theorem HG_t {n k : Nat} {H0 Hn : Heap} {rs : List Loc} {As : List Heap} : HG P c ops n K H0 rs k o rest s As Hn (some true) = HDo P c ops n K H0 rs k o rest s As Hn (a0l s o) := rfl
theorem HG_f {n k : Nat} {H0 Hn : Heap} {rs : List Loc} {As : List Heap} : HG P c ops n K H0 rs k o rest s As Hn (some false) = HNx P c ops n K H0 rs k o rest s As (some (.tup [], noH)) := rfl
theorem e8r {n k : Nat} {H0 Hn : Heap} {rs : List Loc} {As : List Heap} : HDo P c ops n K H0 rs k o rest s As Hn none = HNx P c ops n K H0 rs k o rest s As (b8p P c o { s with H := Hn }) := rfl
theorem e8s {n k : Nat} {H0 Hn : Heap} {rs : List Loc} {As : List Heap} {f : FuncId} {A : List FV} : HDo P c ops n K H0 rs k o rest s As Hn (some (f, A)) = HCl P c ops n K H0 rs k o rest s As Hn f (fnOk P f) A := rfl
theorem hpc (hp : PC P c.G f A r) (ha : nls A = true) (h : HNx P c ops n K H0 rs k o rest s As (some (r, noH))) : HCl P c ops n K H0 rs k o rest s As Hn f true A :=
 ⟨rfl, r, noH, fun H2 _ _ => hp.lift ha H2, h⟩
theorem c1p {H H2 : Heap} (hs : HSub H H2) : ∀ n, (∀ x y, frz H n x = some y -> frz H2 n x = some y) /\ (∀ x y, frzs H n x = some y -> frzs H2 n x = some y) /\ (∀ x y, frzR H n x = some y -> frzR H2 n x = some y)
 | 0 => ⟨fun _ _ h => by simp [frz] at h, fun _ _ h => by simp [frzs] at h, fun _ _ h => by simp [frzR] at h⟩
 | n + 1 => by
   obtain ⟨i1, i2, i3⟩ := c1p hs n
   refine ⟨fun x y h => ?_, fun x y h => ?_, fun x y h => ?_⟩
   . cases x with
     | sl l sz off len =>
       simp only [frz] at h ⊢
       split at h
       . rename_i T sz' xs hl
         simp only [hs _ _ hl]
         split at h
         . rename_i hc
           rw [if_pos hc]
           rw [A5q] at h ⊢
           obtain ⟨ys, hys, rfl⟩ := h
           exact ⟨ys, i3 _ _ hys, rfl⟩
         . cases h
       . cases h
     | agg cs =>
       simp only [frz] at h ⊢
       split at h
       . rename_i hc; rw [if_pos hc]; exact h
       . rename_i hc
         rw [if_neg hc]
         rw [A5q] at h ⊢
         obtain ⟨ys, hys, rfl⟩ := h
         exact ⟨ys, i2 _ _ hys, rfl⟩
     | tup cs =>
       simp only [frz] at h ⊢
       split at h
       . rename_i hc; rw [if_pos hc]; exact h
       . rename_i hc
         rw [if_neg hc]
         rw [A5q] at h ⊢
         obtain ⟨ys, hys, rfl⟩ := h
         exact ⟨ys, i2 _ _ hys, rfl⟩
     | _ => exact h
   . cases x with
     | nil => exact h
     | cons x xs =>
       simp only [frzs] at h ⊢
       rw [A1h] at h ⊢
       obtain ⟨z, hz, h⟩ := h
       rw [A5q] at h
       obtain ⟨ys, hys, rfl⟩ := h
       exact ⟨z, i1 _ _ hz, by rw [A5q]; exact ⟨ys, i2 _ _ hys, rfl⟩⟩
   . simp only [frzR] at h ⊢
     split at h
     . rename_i hc; rw [if_pos hc]; exact h
     . rename_i hc
       rw [if_neg hc]
       cases x with
       | nil => exact h
       | cons x xs =>
         simp only at h ⊢
         rw [A1h] at h ⊢
         obtain ⟨z, hz, h⟩ := h
         rw [A5q] at h
         obtain ⟨ys, hys, rfl⟩ := h
         exact ⟨z, i2 _ _ hz, by rw [A5q]; exact ⟨ys, i3 _ _ hys, rfl⟩⟩
theorem g2n {A1 A2 : List FV} (q : Nat) (hp : PC P c.G f A2 r) (hz : frzs Hn q A = some A1) (ha : asRs A1 A2) (hs : sca r = true) (h : HNx P c ops n K H0 rs k o rest s As (some (r, noH))) :
 HCl P c ops n K H0 rs k o rest s As Hn f true A := ⟨rfl, r, noH, fun H2 h1 _ => hp.lend ((c1p h1 q).2.1 _ _ hz) ha hs, h⟩
theorem a2o {v : FV} {A : Heap} {d : Nat} (hd : o.dst = some d) (hN : d < c.N) (hf : ∀ l, A l ≠ none -> s.H l = none) (h : awH P c ops n K H0 rs (k + 1) rest ({ s with H := ext s.H A }.put d v) (As ++ [A])) :
 HNx P c ops n K H0 rs k o rest s As (some (v, A)) := by
 simp only [HNx, hd]; exact ⟨hN, hf, h⟩
theorem a2k : ∀ l, noH l ≠ none -> s.H l = none := fun _ h => absurd rfl h
theorem a2j {l0 : Loc} {ob : FO} (h : s.H l0 = none) : ∀ l, upd noH l0 ob l ≠ none -> s.H l = none := fun l hl => by
 unfold upd at hl
 split at hl
 . rename_i e; subst e; exact h
 . exact absurd rfl hl
theorem d8x (ht : b = true -> HDo P c ops n K H0 rs k o rest s As Hn (a0l s o)) (hf : b = false -> HNx P c ops n K H0 rs k o rest s As (some (.tup [], noH))) : HG P c ops n K H0 rs k o rest s As Hn (some b) := by
 cases b
 . exact hf rfl
 . exact ht rfl
theorem c4d (ht : b = false -> HDo P c ops n K H0 rs k o rest s As Hn (a0l s o)) (hf : b = true -> HNx P c ops n K H0 rs k o rest s As (some (.tup [], noH))) : HG P c ops n K H0 rs k o rest s As Hn (some !b) := by
 cases b
 . exact ht rfl
 . exact hf rfl
theorem d8w {n k : Nat} {H0 Hn : Heap} {rs : List Loc} {As : List Heap} {p : Prop} [Decidable p] (ht : p -> HDo P c ops n K H0 rs k o rest s As Hn (a0l s o)) (hf : ¬ p -> HNx P c ops n K H0 rs k o rest s As (some (.tup [], noH))) : HG P c ops n K H0 rs k o rest s As Hn (some (decide p)) :=
 d8x (fun h => ht (of_decide_eq_true h)) (fun h => hf (of_decide_eq_false h))
theorem d3c {n k : Nat} {H0 Hn : Heap} {rs : List Loc} {As : List Heap} {p : Prop} [Decidable p] (ht : ¬ p -> HDo P c ops n K H0 rs k o rest s As Hn (a0l s o)) (hf : p -> HNx P c ops n K H0 rs k o rest s As (some (.tup [], noH))) : HG P c ops n K H0 rs k o rest s As Hn (some !decide p) :=
 c4d (fun h => ht (of_decide_eq_false h)) (fun h => hf (of_decide_eq_true h))
theorem g1e {l : List FV} {y : FV} (n : Nat) (h1 : resL P s res = some l) (h2 : frz s.H n (a0p l) = some y) (h3 : asR y r) : PEnd P res r .ret s := ⟨.inr rfl, s, Wk.refl s, l, h1, n, y, h2, h3⟩
theorem d7d {l : List FV} {y : FV} (n : Nat) (h1 : resL P s res = some l) (h2 : frz s.H n (a0p l) = some y) (h3 : asR y r) : PEnd P res r .normal s := ⟨.inl rfl, s, Wk.refl s, l, h1, n, y, h2, h3⟩
def b7j (H : Heap) : Option (List FV) -> Option FV
 | some l => frz H 8 (a0p l)
 | none => none
theorem b5o (H : Heap) (l : List FV) : b7j H (some l) = frz H 8 (a0p l) := rfl
def PFin (x : Option FV) (r : FV) : Prop := match x with
 | some y => asR y r
 | none => False
theorem d1q {y r : FV} : PFin (some y) r = asR y r := rfl
theorem d7c {e : Exit} (he : e = .normal \/ e = .ret) (h : PFin (b7j s.H (resL P s res)) r) : PEnd P res r e s := by
 unfold PFin at h
 split at h
 . rename_i y hy
   unfold b7j at hy
   split at hy
   . rename_i l hl
     exact ⟨he, s, Wk.refl s, l, hl, 8, y, hy, h⟩
   . cases hy
 . exact h.elim
theorem g1c (h : PFin (b7j s.H (resL P s res)) r) : PEnd P res r .ret s := d7c (.inr rfl) h
theorem g1d (h : PFin (b7j s.H (resL P s res)) r) : PEnd P res r .normal s := d7c (.inl rfl) h
theorem g5a {fn : Func} {code : Code} (nv n : Nat) (keep : List Nat) (nm : Nat -> List Nat -> Loc) {args : List FV} (hf : P.funcs[f]? = some fn) (hb : fn.body = some code) (hn : fn.ntmps = n) (hres : fn.results.toList = res)
 (hargs : args.length <= nv) (hnv : nv <= n) (h : a0z P ⟨n, keep, nm, G, fun _ => False⟩ code (PEnd P res r) (Fs.init nv args noH)) : PC P G f args r := by
 subst hn hres
 exact h0m hf hb rfl hargs hnv h
theorem e5o {vs1 vs : List FV} {tm : Asg} {H1 H : Heap} {ix1 ix : List Nat} (hv : vs1.length = vs.length) (hg : ∀ p ∈ vs1.zip vs, p.1 = .undef \/ p.1 = p.2) (hH : HLe H1 H) : Wk (Fs.mk vs1 [] H1 ix1) ⟨vs, tm, H, ix⟩ := by
 have h1 : (Fs.mk vs1 [] H1 ix).le ⟨vs, tm, H, ix⟩ := by
  refine ⟨hv, fun t => ?_, hH⟩
  unfold Fs.get
  simp only
  rw [<- hv]
  split
  . rename_i ht
    have h2 : t < vs.length := by omega
    rw [A5m, A5m, A5n ht, A5n h2]
    have hz : (vs1.zip vs)[t]? = some (vs1[t], vs[t]) := by
     rw [List.getElem?_zip_eq_some]
     exact ⟨A5n ht, A5n h2⟩
    simpa using hg _ (A1b hz)
  . exact .inl rfl
 exact (g2j _ ix1).trans h1.wk
theorem HLe.refl (H : Heap) : HLe H H := fun _ => .inl rfl
end
theorem zw {P : Program} {code : Code} {args : List FV} (fn : Func) (res : List ResultVar) (nv n : Nat) (keep : List Nat) (h : a0z P ⟨n, keep, fun d ix => d :: ix, G, fun _ => False⟩ code (PEnd P res r) (Fs.init nv args noH)) (hf : P.funcs[f]? = some fn := by kernel_rfl) (hb : fn.body = some code := by rfl) (hn : fn.ntmps = n := by rfl) (hr : fn.results.toList = res := by rfl) (ha : args.length ≤ nv := by simp) (hv : nv ≤ n := by decide) : PC P G f args r := g5a nv n keep _ hf hb hn hr ha hv h
theorem cpG {P : Program} {B C : Prop} (hp : PC P G f A r) (a : C) (h : PC P G f A r → C → B := by intro hp; with_reducible first | exact a1v hp (by simp [nls, nl, *, NLXB]) | exact hpc hp (by simp [nls, nl, *, NLXB])) : B := h hp a
end Go.FM
namespace Go.FM
open Go Go.RowKit
variable {args : List FV} {r : FV} {res : List ResultVar}
mutual
def nf : FV -> Bool
 | .undef | .int .. | .bool _ | .str _ | .nilp | .nils | .nilm | .nilf | .emp => true
 | .agg cs => nfs cs
 | .tup cs => nfs cs
 | .list .. | .ref _ | .ptr .. | .sl .. | .mp _ | .clo .. => false
def nfs : List FV -> Bool
 | [] => true
 | x :: xs => nf x && nfs xs
end
theorem f4s (l : List FV) : nfs l = l.all nf := by
 induction l with
 | nil => rfl
 | cons x l ih => simp [nfs, ih]
section
variable {P : Program} {G : List (Nat × List Value)} {f : FuncId} {w w' : World} {F F' : Nat -> Prop} {U U' : Loc -> Prop} {m m' : Loc -> Nat × Nat} {H : Heap}
mutual
theorem RF.free {a : FV} {v : Value} (h : RF w F U m a v) (ha : nf a = true) (w' : World) (F' : Nat -> Prop) (U' : Loc -> Prop) (m' : Loc -> Nat × Nat) : RF w' F' U' m' a v :=
 match h with
 | .undef v => .undef v
 | .int k n => .int k n
 | .bool b => .bool b
 | .str s => .str s
 | .list .. => by simp [nf] at ha
 | .ref .. => by simp [nf] at ha
 | .agg cs vs h => .agg cs vs (RFs.free h ha w' F' U' m')
 | .tup cs vs h => .tup cs vs (RFs.free h ha w' F' U' m')
 | .ptr .. => by simp [nf] at ha
 | .nilp => .nilp
 | .sl .. => by simp [nf] at ha
 | .sl0 .. => by simp [nf] at ha
 | .nils => .nils
 | .mp .. => by simp [nf] at ha
 | .nilm => .nilm
 | .clo .. => by simp [nf] at ha
 | .nilf => .nilf
 | .emp A => .emp A
theorem RFs.free {as : List FV} {vs : List Value} (h : RFs w F U m as vs) (ha : nfs as = true) (w' : World) (F' : Nat -> Prop) (U' : Loc -> Prop) (m' : Loc -> Nat × Nat) : RFs w' F' U' m' as vs :=
 match h with
 | .nil => .nil
 | .cons a v as vs h hs => by
   simp only [nfs, A5t] at ha
   exact .cons a v as vs (RF.free h ha.1 w' F' U' m') (RFs.free hs ha.2 w' F' U' m')
end
def frzN (H : Heap) : FV -> Option FV
 | .sl l sz off len => match H l with
   | some (.cells _ sz' xs) => if decide (sz' = sz) && (decide (off + len <= xs.length) && nfs ((xs.drop off).take len).flatten) then some (.list sz ((xs.drop off).take len)) else none
   | _ => none
 | v => if nf v then some v else none
theorem f6e (hH : HeapR w F m H) {x y : FV} {v : Value} (h : frzN H x = some y) (hx : RF w F (fun l => H l ≠ none) m x v) : RF w (fun b => ∃ l, Live H m l /\ (m l).1 = b) (fun _ => False) m' y v := by
 have c5u : (if nf x then some x else none) = some y -> RF w (fun b => ∃ l, Live H m l /\ (m l).1 = b) (fun _ => False) m' y v := fun h => by
  split at h
  . rename_i hn
    obtain rfl := A5o h
    exact hx.free hn _ _ _ _
  . cases h
 cases x with
 | sl l sz off len =>
   simp only [frzN] at h
   split at h
   case h_2 => cases h
   rename_i T sz' xs hl
   split at h
   case isFalse => cases h
   rename_i hc
   simp only [A5t, A5w] at hc
   obtain ⟨hsz, hlen, hnf⟩ := hc
   rw [hsz] at hl
   obtain rfl := A5o h
   have hcl : ((xs.drop off).take len).length = len := by simp; omega
   rcases hH.obj l _ hl with ⟨rfl, h0⟩ | ⟨h0, c, g1, g2, g3, g4, g5⟩
   . have hl0 : len = 0 := by simp at hlen; omega
     subst hl0
     cases hx with
     | sl _ _ _ _ cap o hu hcap ho hs => simpa using RF.list sz [] _ cap [] yd yd yd .nil
     | sl0 => simpa using RF.list sz [] _ 0 [] yd yd yd .nil
   . have hpart := (g5.drop (off * sz)).take (len * sz)
     rw [<- a7a off xs g3, <- a6v len _ (fun x hx => g3 x (A1n hx))] at hpart
     have hlive : Live H m l := ⟨_, hl, by simp, h0⟩
     cases hx with
     | sl _ _ _ _ cap o hu hcap ho hs =>
       have := RF.list (w := w) (F := fun b => ∃ l, Live H m l /\ (m l).1 = b) (U := fun _ => False) (m := m') sz ((xs.drop off).take len) (some ⟨(m l).1, o, none⟩) cap _ (fun x hx => g3 x (A1n (A0t hx))) ya (fun hne => ?_) (hpart.free hnf _ _ _ _)
       . rw [hcl] at this; exact this
       . have hpos : 0 < len := by
          rcases A1v len with e | e
          . exact absurd (A5u ya) hne
          . exact e
         have ho' : o = off * sz := ho.resolve_left ya
         refine ⟨_, rfl, ⟨l, hlive, rfl⟩, fun j u hj => ?_⟩
         rw [A0p] at hj
         split at hj
         . rw [A2c, A0p] at hj
           split at hj
           . rw [add0, a5a g1, ho']; simpa using hj
           . cases hj
         . cases hj
     | sl0 _ _ _ _ hu h00 => exact absurd h00 h0
 | _ => exact c5u h
def PCn (P : Program) (G : List (Nat × List Value)) (f : FuncId) (args : List FV) (r : FV) : Prop :=
 ∀ (w : World) (F : Nat -> Prop) (m : Loc -> Nat × Nat) (vs : List Value), (∀ y, F y -> y < w.heap.size) -> a5g G F w -> RFs w F (fun _ => False) m args vs ->
   Calls P f vs.toArray w fun e w' => ∃ (v : Value) (F' : Nat -> Prop), e = .returned v /\ (∀ y, F' y -> w.heap.size <= y /\ y < w'.heap.size) /\ RF w' F' (fun _ => False) m r v /\ Below w.heap.size w w'
def NEnd (P : Program) (res : List ResultVar) (r : FV) (e : Exit) (s : Fs) : Prop :=
 (e = .normal \/ e = .ret) /\ ∃ s1, Wk s1 s /\ ∃ l, resL P s1 res = some l /\ ∃ y, frzN s1.H (a0p l) = some y /\ asR y r
theorem g4y {fn : Func} {code : Code} {c : Cfg} {nv : Nat} (hf : P.funcs[f]? = some fn) (hb : fn.body = some code) (hN : c.N = fn.ntmps)
 (hargs : args.length <= nv) (hnv : nv <= fn.ntmps) (h : a0z P c code (NEnd P fn.results.toList r) (Fs.init nv args noH)) : PCn P c.G f args r := by
 intro w F m vs hF hG hv
 have hv' : RFs w F (fun l => noH l ≠ none) m args vs := hv.keep (fun _ h => h) (fun _ _ => rfl) (fun _ h => h.elim) (fun _ h => h.elim)
 refine (d0p hf hb hN hargs hnv h (fun _ h => absurd rfl h) w F m vs hF hG hv' (a6f _ _ _)).mono ?_
 rintro e w' ⟨v, s1, l, F', m', a, rfl, ⟨y, hy, hr⟩, k1, k2, hR, hv2⟩
 have hnol : ∀ b, ¬ Ctx.lent ⟨w, F, noH, m⟩ b := fun b ⟨l, ⟨_, h, _⟩, _⟩ => by cases h
 refine ⟨v, _, rfl, fun b ⟨l, hl, e⟩ => ?_, (f6e (m' := m) hR.heap hy hv2).asR hr, ⟨hR.os, hR.tape, hR.output, hR.size, fun b hb' => hR.keep b hb' (hnol b)⟩⟩
 rw [<- e]
 exact ⟨(hR.own l hl).resolve_left (hnol _), (hR.heap.old l hl).1⟩
theorem PCn.pc (h : PCn P G f args r) : PC P G f args r := by
 intro w F m vs hF hG hv hH
 refine (h w F m vs hF hG (hv.keep (fun _ h => h) (fun _ _ => rfl) (fun _ h => absurd rfl h) (fun _ h => absurd rfl h))).mono ?_
 rintro e w' ⟨v, F', rfl, h1, h2, hb⟩
 exact ⟨v, fun b => F b \/ F' b, m, rfl, fun _ h => .inl h, fun y hy => by
  rcases hy with hy | hy
  . exact ⟨.inl hy, A2b (hF y hy) hb.size⟩
  . exact ⟨.inr (h1 y hy).1, (h1 y hy).2⟩, fun l hl => absurd rfl hl, h2.keep (fun _ h => .inr h) (fun _ _ => rfl) (fun _ h => h.elim) (fun _ h => h.elim), a6f _ _ _, fun l ⟨_, h, _⟩ => zr, hb.size, fun y hy _ => hb.block y hy, hb.os, hb.tape, hb.output⟩
theorem PCn.lend {args1 args2 : List FV} {n : Nat} (hz : frzs H n args = some args1) (ha : asRs args1 args2) (h : PCn P G f args2 r) : FC P G f args H r H := by
 intro w F m vs hF hG hv hH
 obtain ⟨g1, _⟩ := (c4e (m' := m) hH n).2.1 _ _ _ hz hv
 refine (h w (frzF F H m) m vs (fun y hy => ?_) (hG.mono fun _ _ h => .inl h) (g1.asR ha)).mono ?_
 . rcases hy with hy | ⟨l, hl, rfl⟩
   . exact hF y hy
   . exact (hH.old l hl).1
 . rintro e w' ⟨v, F', rfl, h1, h2, hb⟩
   have hR := hH.below hF hb
   refine ⟨v, fun b => F b \/ F' b, m, rfl, fun _ h => .inl h, fun y hy => ?_, fun l hl => ⟨rfl, hl⟩, h2.keep (fun _ h => .inr h) (fun _ _ => rfl) (fun _ h => h.elim) (fun _ h => h.elim), ?_, fun l hl => .inl ⟨l, hl, rfl⟩, hb.size, fun y hy _ => hb.block y hy, hb.os, hb.tape, hb.output⟩
   . rcases hy with hy | hy
     . exact ⟨.inl hy, A2b (hF y hy) hb.size⟩
     . exact ⟨.inr (h1 y hy).1, (h1 y hy).2⟩
   . refine ⟨fun l o ho => (hR.obj l o ho).keep (fun _ h => .inl h) (fun _ _ => rfl) (fun _ h => h) (fun _ _ => rfl) rfl (fun _ _ => rfl), hR.inj, fun l hl => ⟨(hR.old l hl).1, fun hF' => ?_⟩⟩
     rcases hF' with hF' | hF'
     . exact (hR.old l hl).2 hF'
     . have := (h1 _ hF').1
       have := (hH.old l hl).1
       omega
end
section
variable {P : Program} {c : Cfg} {Q : Exit -> Fs -> Prop} {s : Fs} {K : Fs -> Prop} {ops : Array Oper} {o : Oper} {rest : List Oper}
theorem f5b {b : Code} (h : a0z P c (.loop b) Q s) : a0z P c (.loop b) Q s := h
theorem f5k {σ : Type} {st : σ -> Fs} {μ : σ -> Nat} {x : σ} (h : c2o c st μ x Q .normal s) : c2o c st μ x Q .normal s := h
theorem f0c {n k : Nat} {H0 Hn : Heap} {rs : List Loc} {As : List Heap} {f : FuncId} {A A1 A2 : List FV} (q : Nat) (hp : PCn P c.G f A2 r) (hz : frzs Hn q A = some A1) (ha : asRs A1 A2) (h : HNx P c ops n K H0 rs k o rest s As (some (r, noH))) :
 HCl P c ops n K H0 rs k o rest s As Hn f true A := ⟨rfl, r, noH, fun H2 h1 _ => hp.lend ((c1p h1 q).2.1 _ _ hz) ha, h⟩
def b1n (H : Heap) : Option (List FV) -> Option FV
 | some l => frzN H (a0p l)
 | none => none
theorem b2s (H : Heap) (l : List FV) : b1n H (some l) = frzN H (a0p l) := rfl
theorem d7q {e : Exit} (he : e = .normal \/ e = .ret) (h : PFin (b1n s.H (resL P s res)) r) : NEnd P res r e s := by
 unfold PFin at h
 split at h
 . rename_i y hy
   unfold b1n at hy
   split at hy
   . rename_i l hl
     exact ⟨he, s, Wk.refl s, l, hl, y, hy, h⟩
   . cases hy
 . exact h.elim
theorem g1p (h : PFin (b1n s.H (resL P s res)) r) : NEnd P res r .ret s := d7q (.inr rfl) h
theorem g1q (h : PFin (b1n s.H (resL P s res)) r) : NEnd P res r .normal s := d7q (.inl rfl) h
theorem g4z {G : List (Nat × List Value)} {f : FuncId} {fn : Func} {code : Code} (nv n : Nat) (keep : List Nat) (nm : Nat -> List Nat -> Loc) (hf : P.funcs[f]? = some fn) (hb : fn.body = some code) (hn : fn.ntmps = n) (hres : fn.results.toList = res)
 (hargs : args.length <= nv) (hnv : nv <= n) (h : a0z P ⟨n, keep, nm, G, fun _ => False⟩ code (NEnd P res r) (Fs.init nv args noH)) : PCn P G f args r := by
 subst hn hres
 exact g4y (c := ⟨fn.ntmps, keep, nm, G, fun _ => False⟩) hf hb rfl hargs hnv h
end
end Go.FM
namespace Go.FM
open Go
variable {As : List Heap} {H0 : Heap} {k n : Nat} {rs : List Loc}
mutual
def ren (β : Loc -> Option Loc) : FV -> FV
 | .ptr l sz i off => match β l with
   | some k => .ptr k sz i off
   | none => .undef
 | .sl l sz off len => match β l with
   | some k => .sl k sz off len
   | none => .nils
 | .mp l => match β l with
   | some k => .mp k
   | none => .undef
 | .agg cs => .agg (rens β cs)
 | .tup cs => .tup (rens β cs)
 | .clo f a b => .clo f (rens β a) (rens β b)
 | v => v
def rens (β : Loc -> Option Loc) : List FV -> List FV
 | [] => []
 | v :: vs => ren β v :: rens β vs
end
mutual
def inn (β : Loc -> Option Loc) (U : Loc -> Prop) : FV -> Prop
 | .ptr l _ _ _ => U l /\ (β l).isSome = true
 | .sl l _ _ len => U l /\ ((β l).isSome = true \/ len = 0)
 | .mp l => U l /\ (β l).isSome = true
 | .agg cs => inns β U cs
 | .tup cs => inns β U cs
 | .clo _ a b => inns β U a /\ inns β U b
 | .list _ xs => nlss xs = true
 | .ref cs => nls cs = true
 | _ => True
def inns (β : Loc -> Option Loc) (U : Loc -> Prop) : List FV -> Prop
 | [] => True
 | v :: vs => inn β U v /\ inns β U vs
end
section
variable {w : World} {F : Nat -> Prop} {U U' : Loc -> Prop} {m m' : Loc -> Nat × Nat} {β : Loc -> Option Loc}
mutual
theorem RF.ren {a : FV} {v : Value} (h : RF w F U m (ren β a) v) (ha : inn β U' a) (hm : ∀ l, U' l -> m' l = match β l with | some k => m k | none => (0, 0)) : RF w F U' m' a v := by
 match a with
 | .ptr l sz i off =>
   simp only [inn, A1g] at ha
   obtain ⟨hu, k, hk⟩ := ha
   have h1 := hm l hu
   simp only [hk] at h1
   simp only [FM.ren, hk] at h
   cases h with
   | ptr _ _ _ _ hu' => rw [<- h1]; exact .ptr l sz i off hu
 | .sl l sz off len =>
   simp only [inn, A1g] at ha
   obtain ⟨hu, ha⟩ := ha
   have h1 := hm l hu
   cases hk : β l with
   | none =>
     rw [hk] at ha
     have h0 : len = 0 := by
      rcases ha with ⟨k, h⟩ | h
      . cases h
      . exact h
     subst h0
     simp only [hk] at h1
     simp only [FM.ren, hk] at h
     cases h with
     | nils => exact .sl0 l sz off none hu (by rw [h1])
   | some k =>
     simp only [hk] at h1
     simp only [FM.ren, hk] at h
     cases h with
     | sl _ _ _ _ cap o hu' hc ho hs => rw [<- h1] at hs ⊢; exact .sl l sz off len cap o hu hc ho hs
     | sl0 _ _ _ A hu' h0 => exact .sl0 l sz off A hu (by rw [h1]; exact h0)
 | .mp l =>
   simp only [inn, A1g] at ha
   obtain ⟨hu, k, hk⟩ := ha
   have h1 := hm l hu
   simp only [hk] at h1
   simp only [FM.ren, hk] at h
   cases h with
   | mp _ hu' => rw [<- h1]; exact .mp l hu
 | .agg cs =>
   simp only [FM.ren] at h
   cases h with
   | agg _ vs h => exact .agg cs vs (RFs.ren h ha hm)
 | .tup cs =>
   simp only [FM.ren] at h
   cases h with
   | tup _ vs h => exact .tup cs vs (RFs.ren h ha hm)
 | .clo f x y =>
   simp only [FM.ren] at h
   cases h with
   | clo _ _ _ us vs h1 h2 => exact .clo f x y us vs (RFs.ren h1 ha.1 hm) (RFs.ren h2 ha.2 hm)
 | .list sz xs => simp only [FM.ren] at h; exact h.nameless (by simpa [nl, inn] using ha) _ _
 | .ref cs => simp only [FM.ren] at h; exact h.nameless (by simpa [nl, inn] using ha) _ _
 | .undef => exact h.nameless rfl _ _
 | .int .. => exact h.nameless rfl _ _
 | .bool _ => exact h.nameless rfl _ _
 | .str _ => exact h.nameless rfl _ _
 | .nilp => exact h.nameless rfl _ _
 | .nils => exact h.nameless rfl _ _
 | .nilm => exact h.nameless rfl _ _
 | .nilf => exact h.nameless rfl _ _
 | .emp => exact h.nameless rfl _ _
theorem RFs.ren {as : List FV} {vs : List Value} (h : RFs w F U m (rens β as) vs) (ha : inns β U' as) (hm : ∀ l, U' l -> m' l = match β l with | some k => m k | none => (0, 0)) : RFs w F U' m' as vs := by
 match as with
 | [] => simp only [rens] at h; cases h; exact .nil
 | a :: as =>
   simp only [rens] at h
   cases h with
   | cons _ v _ vs h hs => exact .cons a v as vs (RF.ren h ha.1 hm) (RFs.ren hs ha.2 hm)
end
def renss (β : Loc -> Option Loc) : List (List FV) -> List (List FV)
 | [] => []
 | v :: vs => rens β v :: renss β vs
def a3z (β : Loc -> Option Loc) (U : Loc -> Prop) : List (List FV) -> Prop
 | [] => True
 | v :: vs => inns β U v /\ a3z β U vs
def rene (β : Loc -> Option Loc) : List (FV × FV × Nat) -> List (FV × FV × Nat)
 | [] => []
 | (k, v, n) :: es => (ren β k, ren β v, n) :: rene β es
def inne (β : Loc -> Option Loc) (U : Loc -> Prop) : List (FV × FV × Nat) -> Prop
 | [] => True
 | (k, v, _) :: es => (inn β U k /\ inn β U v) /\ inne β U es
def renO (β : Loc -> Option Loc) : FO -> FO
 | .cells T sz xs => .cells T sz (renss β xs)
 | .map es clk => .map (rene β es) clk
 | .iter x a b c => .iter (ren β x) a b c
 | .dead => .dead
def innO (β : Loc -> Option Loc) (U : Loc -> Prop) : FO -> Prop
 | .cells _ _ xs => a3z β U xs
 | .map es _ => inne β U es
 | .iter x _ _ _ => inn β U x
 | .dead => True
theorem c5s (as : List FV) : (rens β as).length = as.length := by
 induction as with
 | nil => rfl
 | cons a as ih => simp [rens, ih]
theorem b4e (xs : List (List FV)) : (renss β xs).length = xs.length := by
 induction xs with
 | nil => rfl
 | cons a as ih => simp [renss, ih]
theorem d6l {sz : Nat} {xs : List (List FV)} (h : ∀ x ∈ renss β xs, x.length = sz) : ∀ x ∈ xs, x.length = sz := by
 induction xs with
 | nil => intro x hx; cases hx
 | cons a as ih =>
   simp only [renss, A0m, forall_eq_or_imp, c5s] at h ⊢
   exact ⟨h.1, ih h.2⟩
theorem RFs.renss {xs : List (List FV)} {vs : List Value} (h : RFs w F U m (renss β xs).flatten vs) (ha : a3z β U' xs) (hm : ∀ l, U' l -> m' l = match β l with | some k => m k | none => (0, 0)) : RFs w F U' m' xs.flatten vs := by
 induction xs generalizing vs with
 | nil => simp only [FM.renss, List.flatten_nil] at h ⊢; cases h; exact .nil
 | cons a as ih =>
   simp only [FM.renss, A0l] at h ⊢
   obtain ⟨v1, v2, rfl, h1, h2⟩ := RFs.part _ _ h
   exact (h1.ren ha.1 hm).append (ih h2 ha.2)
theorem REs.rene {es : List (FV × FV × Nat)} {xs : List MapEntry} (h : REs w F U m (rene β es) xs) (ha : inne β U' es) (hm : ∀ l, U' l -> m' l = match β l with | some k => m k | none => (0, 0)) : REs w F U' m' es xs := by
 induction es generalizing xs with
 | nil => simp only [FM.rene] at h; cases h; exact .nil
 | cons e es ih =>
   obtain ⟨k, v, n⟩ := e
   simp only [FM.rene] at h
   cases h with
   | cons _ x _ xs h hs => exact .cons _ x es xs ⟨h.key.ren ha.1.1 hm, h.val.ren ha.1.2 hm, h.born⟩ (ih hs ha.2)
mutual
theorem d6o {a : FV} (h : nl a = true) : ren β a = a := by
 match a with
 | .ptr .. => simp [nl] at h
 | .sl .. => simp [nl] at h
 | .mp .. => simp [nl] at h
 | .agg cs => simp only [nl] at h; simp only [ren, a9j h]
 | .tup cs => simp only [nl] at h; simp only [ren, a9j h]
 | .clo f x y => simp only [nl, A5t] at h; simp only [ren, a9j h.1, a9j h.2]
 | .list .. => rfl
 | .ref .. => rfl
 | .undef => rfl
 | .int .. => rfl
 | .bool _ => rfl
 | .str _ => rfl
 | .nilp => rfl
 | .nils => rfl
 | .nilm => rfl
 | .nilf => rfl
 | .emp => rfl
theorem a9j {as : List FV} (h : nls as = true) : rens β as = as := by
 match as with
 | [] => rfl
 | a :: as => simp only [nls, A5t] at h; simp only [rens, d6o h.1, a9j h.2]
end
mutual
theorem d8q {a : FV} (h : nl a = true) : inn β U a := by
 match a with
 | .ptr .. => simp [nl] at h
 | .sl .. => simp [nl] at h
 | .mp .. => simp [nl] at h
 | .agg cs => simp only [nl] at h; exact a8i h
 | .tup cs => simp only [nl] at h; exact a8i h
 | .clo f x y => simp only [nl, A5t] at h; exact ⟨a8i h.1, a8i h.2⟩
 | .list .. => simpa [nl, inn] using h
 | .ref .. => simpa [nl, inn] using h
 | .undef => trivial
 | .int .. => trivial
 | .bool _ => trivial
 | .str _ => trivial
 | .nilp => trivial
 | .nils => trivial
 | .nilm => trivial
 | .nilf => trivial
 | .emp => trivial
theorem a8i {as : List FV} (h : nls as = true) : inns β U as := by
 match as with
 | [] => trivial
 | a :: as => simp only [nls, A5t] at h; exact ⟨d8q h.1, a8i h.2⟩
end
theorem a6y {xs : List (List FV)} (h : nlss xs = true) : renss β xs = xs := by
 induction xs with
 | nil => rfl
 | cons a as ih => simp only [nlss, A5t] at h; simp only [renss, a9j h.1, ih h.2]
theorem b0o {xs : List (List FV)} (h : nlss xs = true) : a3z β U xs := by
 induction xs with
 | nil => trivial
 | cons a as ih => simp only [nlss, A5t] at h; exact ⟨a8i h.1, ih h.2⟩
theorem a1j (xs ys : List (List FV)) : nlss (xs ++ ys) = (nlss xs && nlss ys) := by
 induction xs with
 | nil => rfl
 | cons a as ih => simp [nlss, ih, Bool.and_assoc]
def nle (es : List (FV × FV × Nat)) : Bool := es.all fun e => nl e.1 && nl e.2.1
theorem d7n : nle [] = true := rfl
theorem c9o (e : FV × FV × Nat) (es : List (FV × FV × Nat)) : nle (e :: es) = ((nl e.1 && nl e.2.1) && nle es) := rfl
theorem b9c (xs ys : List (FV × FV × Nat)) : nle (xs ++ ys) = (nle xs && nle ys) := by simp [nle]
theorem d6m {es : List (FV × FV × Nat)} (h : nle es = true) : rene β es = es := by
 induction es with
 | nil => rfl
 | cons e es ih =>
   obtain ⟨k, v, n⟩ := e
   simp only [nle, A3i, A5t] at h
   simp only [rene, d6o h.1.1, d6o h.1.2, ih h.2]
theorem d8n {es : List (FV × FV × Nat)} (h : nle es = true) : inne β U es := by
 induction es with
 | nil => trivial
 | cons e es ih =>
   obtain ⟨k, v, n⟩ := e
   simp only [nle, A3i, A5t] at h
   exact ⟨⟨d8q h.1.1, d8q h.1.2⟩, ih h.2⟩
end
section
variable {X : Ctx} {c : Cfg} {w : World} {F : Nat -> Prop} {m : Loc -> Nat × Nat} {s s1 : Fs} {a : Act}
theorem f0h (β : Loc -> Option Loc) (hv : s1.vars.length = s.vars.length) (ht : ∀ t, s1.get t = .undef \/ (ren β (s1.get t) = s.get t /\ inn β (fun l => s1.H l ≠ none) (s1.get t)))
 (hH : ∀ l o, s1.H l = some o -> o = .dead \/ (∃ k, β l = some k /\ s.H k = some (renO β o) /\ innO β (fun l => s1.H l ≠ none) o) \/ (β l = none /\ ∃ T sz, o = .cells T sz []))
 (hinj : ∀ l l' k, s1.H l ≠ none -> s1.H l' ≠ none -> β l = some k -> β l' = some k -> l = l')
 (hL : ∀ l, c.L l -> s.H l ≠ none -> s1.H l ≠ none /\ β l = some l) : Gk c s1 s := by
 rintro X a w ⟨hN, F, m, h1, h2, h⟩
 let m' : Loc -> Nat × Nat := fun l => match β l with | some k => m k | none => (0, 0)
 have hm : ∀ l, s1.H l ≠ none -> m' l = match β l with | some k => m k | none => (0, 0) := fun _ _ => rfl
 have hlive : ∀ l, Live s1.H m' l -> ∃ k, β l = some k /\ m' l = m k /\ Live s.H m k := fun l ⟨o, g1, g2, g3⟩ => by
  rcases hH l o g1 with rfl | ⟨k, k1, k2, k3⟩ | ⟨k1, _⟩
  . exact absurd rfl g2
  . have e : m' l = m k := by simp only [m', k1]
    refine ⟨k, k1, e, _, k2, ?_, e ▸ g3⟩
    cases o <;> simp [renO] at g2 ⊢
  . exact absurd (by simp only [m', k1]) g3
 refine ⟨hN, F, m', h1, h2, ?_⟩
 refine { df := h.df, vsz := by rw [hv]; exact h.vsz, val := fun t => ?_, heap := ⟨fun l o ho => ?_, fun k k' hk hk' e => ?_, fun k hk => ?_⟩, own := fun l hl => ?_,
          ext := fun l hl => (hL l (h1.hd l hl) (h.ext l hl)).1, mfix := fun l hl => ?_, frz := h.frz, keep := h.keep, size := h.size, os := h.os, tape := h.tape, output := h.output }
 . rcases ht t with e | ⟨e1, e2⟩
   . rw [e]; exact .undef _
   . exact RF.ren (by rw [e1]; exact h.val t) e2 hm
 . rcases hH l o ho with rfl | ⟨k, k1, k2, k3⟩ | ⟨k1, T, sz, rfl⟩
   . trivial
   . have hob := h.heap.obj k _ k2
     have e : m' l = m k := by simp only [m', k1]
     cases o with
     | cells T sz xs =>
       simp only [renO, OR] at hob ⊢
       rw [e]
       rcases hob with ⟨b1, b2⟩ | ⟨b0, cc, b1, b2, b3, b4, b5⟩
       . left
         refine ⟨?_, b2⟩
         have := b4e (β := β) xs
         rw [b1] at this
         exact A5u this.symm
       . right
         rw [b4e] at b4 b5
         exact ⟨b0, cc, b1, b2, d6l b3, b4, b5.renss k3 hm⟩
     | map es clk =>
       simp only [renO, OR] at hob ⊢
       rw [e]
       obtain ⟨b0, aa, b1, b2⟩ := hob
       exact ⟨b0, aa, b1, b2.rene k3 hm⟩
     | iter x q r t =>
       simp only [renO, OR] at hob ⊢
       rw [e]
       obtain ⟨b0, aa, b1, b2⟩ := hob
       exact ⟨b0, aa, b1.ren k3 hm, b2⟩
     | dead => trivial
   . left; exact ⟨rfl, by simp only [m', k1]⟩
 . obtain ⟨q, q1, q2, q3⟩ := hlive k hk
   obtain ⟨q', q1', q2', q3'⟩ := hlive k' hk'
   have e2 : q = q' := h.heap.inj q q' q3 q3' (by rw [<- q2, <- q2']; exact e)
   subst e2
   obtain ⟨o, g1, _⟩ := hk
   obtain ⟨o', g1', _⟩ := hk'
   exact hinj k k' q (by simp [g1]) (by simp [g1']) q1 q1'
 . obtain ⟨q, q1, q2, q3⟩ := hlive k hk
   rw [q2]; exact h.heap.old q q3
 . obtain ⟨q, q1, q2, q3⟩ := hlive l hl
   rw [q2]; exact h.own q q3
 . obtain ⟨_, e⟩ := hL l (h1.hd l hl) (h.ext l hl)
   show (match β l with | some k => m k | none => (0, 0)) = _
   rw [e]; exact h.mfix l hl
end
def hpL : LF -> Heap
 | [] => noH
 | (l, o) :: r => upd (hpL r) l o
theorem b7e (l : Loc) (o : FO) (r : LF) (k : Loc) : hpL ((l, o) :: r) k = if k = l then some o else hpL r k := rfl
theorem b1m (k : Loc) : hpL [] k = none := rfl
def bk : List (Loc × Option Loc) -> Loc -> Option Loc
 | [], l => some l
 | (k, o) :: r, l => if l = k then o else bk r l
def simV (β : Loc -> Option Loc) (U : Loc -> Prop) (v1 v : FV) : Prop := v1 = .undef \/ (ren β v1 = v /\ inn β U v1)
def a7m (β : Loc -> Option Loc) (U : Loc -> Prop) : List FV -> List FV -> Prop
 | v1 :: r1, v :: r => simV β U v1 v /\ a7m β U r1 r
 | [], [] => True
 | _, _ => False
def simT (β : Loc -> Option Loc) (U : Loc -> Prop) (n : Nat) (tm : Asg) : Asg -> Prop
 | [] => True
 | (t, v) :: r => (n <= t /\ simV β U v (lk tm t)) /\ simT β U n tm r
def simO (β : Loc -> Option Loc) (U : Loc -> Prop) (H : Heap) (l : Loc) (o : FO) : Prop := match β l with
 | some k => H k = some (renO β o) /\ innO β U o
 | none => match o with
   | .cells _ _ [] => True
   | _ => False
def simH (β : Loc -> Option Loc) (U : Loc -> Prop) (H : Heap) : LF -> Prop
 | [] => True
 | (l, o) :: r => simO β U H l o /\ simH β U H r
def injB (β : Loc -> Option Loc) : List Loc -> Bool
 | [] => true
 | l :: r => (match β l with | some k => r.all fun l' => l' == l || !(β l' == some k) | none => true) && injB β r
theorem b7d : ∀ (L : LF) (l : Loc) (o : FO), hpL L l = some o -> (l, o) ∈ L
 | [], l, o, h => by cases h
 | (k, x) :: r, l, o, h => by
   simp only [hpL, upd] at h
   split at h
   . rename_i e; subst e; obtain rfl := A5o h; exact A3r
   . exact A2t _ (b7d r l o h)
theorem c0h {β : Loc -> Option Loc} {U : Loc -> Prop} {H : Heap} : ∀ {L : LF}, simH β U H L -> ∀ p ∈ L, simO β U H p.1 p.2
 | [], _, p, hp => by cases hp
 | (k, x) :: r, h, p, hp => by
   rcases A0m.1 hp with rfl | hp
   . exact h.1
   . exact c0h h.2 p hp
theorem c1d {β : Loc -> Option Loc} : ∀ {L : List Loc}, injB β L = true -> ∀ l ∈ L, ∀ l' ∈ L, ∀ k, β l = some k -> β l' = some k -> l = l'
 | [], _, l, hl, _, _, _, _, _ => by cases hl
 | a :: r, h, l, hl, l', hl', k, e, e' => by
   simp only [injB, A5t] at h
   obtain ⟨h1, h2⟩ := h
   have key : ∀ x ∈ r, β a = some k -> β x = some k -> x = a := fun x hx ea ex => by
    rw [ea] at h1
    have := List.all_eq_true.1 h1 x hx
    simp only [A2v, beq_iff_eq, A4x, ex] at this
    rcases this with h | h
    . exact h
    . simp at h
   rcases A0m.1 hl with rfl | hl1
   . rcases A0m.1 hl' with rfl | hl2
     . rfl
     . exact (key l' hl2 e e').symm
   . rcases A0m.1 hl' with rfl | hl2
     . exact key l hl1 e' e
     . exact c1d h2 l hl1 l' hl2 k e e'
theorem b6f {β : Loc -> Option Loc} {U : Loc -> Prop} : ∀ {l1 l : List FV}, a7m β U l1 l -> l1.length = l.length /\ ∀ t, t < l.length -> simV β U (l1.getD t .undef) (l.getD t .undef)
 | [], [], _ => ⟨rfl, fun t h => by cases h⟩
 | [], _ :: _, h => h.elim
 | _ :: _, [], h => h.elim
 | v1 :: r1, v :: r, h => by
   obtain ⟨g1, g2⟩ := b6f h.2
   refine ⟨by simp [g1], fun t ht => ?_⟩
   cases t with
   | zero => simpa using h.1
   | succ t => simpa using g2 t (by simpa using ht)
theorem c0g {β : Loc -> Option Loc} {U : Loc -> Prop} {n : Nat} {tm : Asg} : ∀ {l : Asg}, simT β U n tm l -> ∀ t, lk l t = .undef \/ (n <= t /\ simV β U (lk l t) (lk tm t))
 | [], _, t => .inl rfl
 | (k, v) :: r, h, t => by
   simp only [lk]
   split
   . rename_i e; subst e; exact .inr h.1
   . exact c0g h.2 t
theorem b4f {c : Cfg} {vs1 vs : List FV} {tm1 tm : Asg} {L : LF} {H : Heap} {ix1 ix : List Nat} (b : List (Loc × Option Loc)) (hc : ∀ l, ¬ c.L l) (hinj : injB (bk b) (L.map Prod.fst) = true) (hv : a7m (bk b) (fun l => hpL L l ≠ none) vs1 vs)
 (ht : simT (bk b) (fun l => hpL L l ≠ none) vs.length tm tm1) (hH : simH (bk b) (fun l => hpL L l ≠ none) H L) : Gk c (Fs.mk vs1 tm1 (hpL L) ix1) ⟨vs, tm, H, ix⟩ := by
 obtain ⟨g1, g2⟩ := b6f hv
 have hdom : ∀ l, hpL L l ≠ none -> l ∈ L.map Prod.fst := fun l hl => by
  cases h : hpL L l with
  | none => exact absurd h hl
  | some o => exact A1t.2 ⟨_, b7d L l o h, rfl⟩
 refine f0h (bk b) g1 (fun t => ?_) (fun l o ho => ?_) (fun l l' k h1 h2 => c1d hinj l (hdom l h1) l' (hdom l' h2) k) (fun l hl => absurd hl (hc l))
 . simp only [Fs.get]
   rw [g1]
   split
   . rename_i hlt
     exact g2 t hlt
   . rcases c0g ht t with h | h
     . exact .inl h
     . exact h.2
 . have h1 := c0h hH _ (b7d L l o ho)
   unfold simO at h1
   split at h1
   . rename_i k hk; exact .inr (.inl ⟨k, hk, h1.1, h1.2⟩)
   . rename_i hk
     split at h1
     . rename_i T sz e; exact .inr (.inr ⟨hk, T, sz, e⟩)
     . exact h1.elim
section
variable {P : Program} {c : Cfg} {Q : Exit -> Fs -> Prop} {s : Fs} {K : Fs -> Prop} {ops : Array Oper} {o : Oper} {rest : List Oper}
theorem g4o {id : Nat} (rs : List Loc) (n : Nat) (hm : P.follows .mixedOrders = true) (hB : b7x ops n = true)
 (h : ∀ K : Fs -> Prop, Kont Q K -> awH3 P c ops n (Fend c.keep ops K) (rmvs rs s.H) rs 0 ops.toList s []) : a0z P c (.region id ops true) Q s :=
 f1e (fun s' => Q .normal (s'.clean (a2t ops) c.keep)) (fun _ _ _ _ _ hr hq => e1w (K := fun s' => Q .normal (s'.clean (a2t ops) c.keep)) (fun s a w hR hK => hq s a w hK hR) hr hm hB (b5f rs s.H) (h _ fun _ h => h)) fun _ h => h
def HNx3 (P : Program) (c : Cfg) (ops : Array Oper) (n : Nat) (K : Fs -> Prop) (H0 : Heap) (rs : List Loc) (k : Nat) (o : Oper) (rest : List Oper) (s : Fs) (As : List Heap) (x : Option (LF × FV)) : Prop := match x, o.dst with
 | some ([], v), some d => d < c.N /\ awH3 P c ops n K H0 rs (k + 1) rest (s.put d v) (As ++ [noH])
 | _, _ => False
theorem f5r {d : Nat} {v : FV} (hd : o.dst = some d) (hN : d < c.N) (h : awH3 P c ops n K H0 rs (k + 1) rest (s.put d v) (As ++ [noH])) : HNx3 P c ops n K H0 rs k o rest s As (some ([], v)) := by
 unfold HNx3; rw [hd]; exact ⟨hN, h⟩
theorem f7y (hk : k < n) (_ : o.dst.isSome = true) (hd : (b1q ops n k o && b6e false c.N ops o) = true) (hg : a0x ops o s = some true) (hc : a0l s o = none) (h : HNx3 P c ops n K H0 rs k o rest s As (wv P H0 (c.nm (o.dst.getD 0) s.ix) (rv s) o)) : awH3 P c ops n K H0 rs k (o :: rest) s As := by
 simp only [awH3, awHb, hk, if_true]
 unfold HNx3 at h
 split at h
 . rename_i v d hv hdst
   obtain ⟨h1, h2⟩ := h
   have hm : b8p P c o { s with H := H0 } = some (v, upds noH []) := by
    unfold b8p
    have e : wv P H0 (c.nm (o.dst.getD 0) s.ix) (rv { s with H := H0 }) o = some ([], v) := hv
    rw [show ({ s with H := H0 } : Fs).ix = s.ix from rfl]
    show (wv P H0 (c.nm (o.dst.getD 0) s.ix) (rv { s with H := H0 }) o).map _ = _
    rw [e]; rfl
   refine ⟨d, v, noH, H0, fun _ => False, (b0r (sn := { s with H := H0 }) hg hc hdst h1 hm).two.three k, by simpa using hd, fun l hl => (hl rfl).elim, fun _ h => h.elim, fun l ob hl => .inl hl, ?_⟩
   rw [a3r]; exact h2
 . exact h.elim
theorem d3y {H H2 : Heap} {t : TypeId} {l : Loc} {sz i off : Nat} {x : FV} (h : H2 l = H l) : a6u P H2 t (.ptr l sz i off) x = a6u P H t (.ptr l sz i off) x := by
 unfold a6u
 cases szT P t with
 | none => rfl
 | some n =>
   cases n with
   | zero => rfl
   | succ n => simp only [h]
theorem Rel.dull {X : Ctx} {a : Act} {w : World} (h : Rel X c s a w) (d : Nat) : Rel X c (s.put d .undef) a w := by
 refine h.weaken ⟨by rw [b4y], fun t => ?_, fun l => .inl (by rw [c2p])⟩
 rw [b3o]
 split
 . exact .inl rfl
 . exact .inr rfl
theorem f7x (l : Loc) (ob ob' : FO) (t : TypeId) (ad x : Operand) (sz i off : Nat) (hk : k < n) (hd : (b1q ops n k o && b6e false c.N ops o) = true) (hg : a0x ops o s = some true) (hdst : o.dst = none) (ho : o.op = .store t ad x)
 (hrs : l ∈ rs) (h0 : H0 l = none) (hl : s.H l = some ob) (had : rv s ad = .ptr l sz i off) (hw : a6u P (upd noH l ob) t (.ptr l sz i off) (rv s x) = some ([(l, ob')], .undef))
 (hAs : ∀ (j : Nat) (Aj : Heap), As[j]? = some Aj -> Aj l ≠ none -> a2z o j = true) (h : awH3 P c ops n K H0 rs (k + 1) rest ({ s with H := upd s.H l ob' }.put (c.N + k) .undef) (As ++ [upd noH l ob'])) : awH3 P c ops n K H0 rs k (o :: rest) s As := by
 simp only [awH3, awHb, hk, if_true]
 have eA : ∀ H : Heap, ext H (upd noH l ob') = upd H l ob' := fun H => by
  funext q; unfold ext upd noH; by_cases e : q = l <;> simp [e]
 have dep : ∀ y : Operand, y ∈ o.op.operands.toList -> ∀ s2 : Fs, (∀ t ∈ deps ops o, s2.get t = s.get t) -> rv s2 y = rv s y := fun y hy s2 h1 => c0j h1 y hy
 refine ⟨c.N + k, .undef, upd noH l ob', upd H0 l ob, fun q => q = l, ⟨.inr ⟨hdst, rfl, rfl⟩, fun X s2 a w K' Q' h1 h2 h3 h4 hR hK => ?_⟩, by simpa using hd, fun q hq => .inl ?_, fun q hq => ?_, fun q ob2 hq => ?_, ?_⟩
 . have hg2 : a0x ops o s2 = some true := (a4h h1).trans hg
   rw [if_pos (a4a hR hg2)]
   have hs2 : s2.H l = some ob := h3 l ob z1a
   have e1 : rv s2 ad = .ptr l sz i off := (dep ad (by rw [ho]; simp [Op.operands]) s2 h1).trans had
   have e2 : rv s2 x = rv s x := dep x (by rw [ho]; simp [Op.operands]) s2 h1
   have hst : b1p P c o s2 = some { s2 with H := upd s2.H l ob' } := by
    have e3 : wv P s2.H (c.nm (o.dst.getD 0) s2.ix) (rv s2) o = some ([(l, ob')], .undef) := by
     unfold wv
     rw [ho]
     show a6u P s2.H t (rv s2 ad) (rv s2 x) = _
     rw [e1, e2, d3y (H := upd noH l ob) (by rw [hs2]; simp [upd]), hw]
    unfold b1p
    rw [e3]
    simp only [putD, hdst]; rfl
   refine .inl (b3b (b2v hst) hR fun v w' hR' => hK v w' ?_)
   rw [eA]
   exact hR'.dull _
 . by_cases e : q = l
   . exact e
   . exact absurd (by simp [upd, e, noH]) hq
 . subst hq
   exact ⟨by simp [upd], hrs, h0, hAs⟩
 . by_cases e : q = l
   . subst e
     simp only [upd, if_true] at hq
     obtain rfl := A5o hq
     exact .inr (.inl ⟨rfl, hl⟩)
   . simp only [upd, if_neg e] at hq
     exact .inl hq
 . rw [eA]; exact h
theorem e1x {l : List Oper} (hk : ¬ k < n) (h : wOps P c ops l K s) : awH3 P c ops n K H0 rs k l s As := by
 cases l with
 | nil => exact h
 | cons o rest => simp only [awH3, awHb, hk, if_false]; exact h
end
end Go.FM
