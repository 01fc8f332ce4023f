/- One of the texts of a proof by an abstract machine over the model. -/
import Derived.Test.YthlhjepijodemaaAmH
set_option linter.unusedSimpArgs false
set_option linter.unusedVariables false
namespace Go.AM
open Go

structure Cfg where
  N : Nat
  pins : List Nat
  keep : List Nat

def putD (c : Cfg) (o : Oper) (x : AV) (s : St) : Option St := match o.dst with
  | none => some s
  | some d => if decide (d < c.N) && (!c.pins.contains d && ((s.get d).isU && (!x.isH || decide (s.vars.length ≤ d)))) then some (s.put d x) else none
def putA (c : Cfg) (o : Oper) (x : AV) (s : St) : Option St := match o.dst with
  | none => none
  | some d => if decide (d < c.N) && (!c.pins.contains d && !x.isH) then some { s.put d x with D := (d, 0) :: s.D } else none

def Ran (P : Program) (o : Oper) (a : Act) (w : World) (v : Value) (w' : World) : Prop :=
  (execOp a.eval o).run P w = .ok (.value v) w' ∨ ((execOp a.eval o).run P w = .ok .skip w' ∧ v = undef)

/-- what an abstract step says of the operation -/
def Snd (P : Program) (c : Cfg) (o : Oper) (s s' : St) : Prop :=
  ∀ (w0 : World) (A0 : List Nat) (ps : List (Nat × Value)) (F : Nat → Prop) (bs : Nat → List Nat) (fr : List Nat) (a : Act) (w : World), a.tmps.size = c.N → (∀ y ∈ ps, y.1 ∈ c.pins) → RelX w0 A0 ps F bs fr s a w →
    ∃ (bs' : Nat → List Nat) (fr' : List Nat) (v : Value) (w' : World), Ran P o a w v w' ∧ RelX w0 A0 ps F bs' fr' s' (a.put o.dst v) w'

theorem isU_iff {x : AV} (h : x.isU = true) : x = .undef := by cases x <;> first | rfl | (simp [AV.isU] at h)

section
variable {P : Program} {c : Cfg} {w0 w w' : World} {A0 : List Nat} {ps : List (Nat × Value)} {F F' : Nat → Prop} {bs bs' : Nat → List Nat} {fr fr' : List Nat} {s s' : St} {a a' : Act} {o : Oper}

theorem put_ok {b : List Nat} {x : AV} {v : Value} (h : RelX w0 A0 ps F bs (b ++ fr) s a w) (hN : a.tmps.size = c.N) (hp : ∀ y ∈ ps, y.1 ∈ c.pins) (hx : RV w F x v b) (hs : putD c o x s = some s') :
    ∃ bs' fr', RelX w0 A0 ps F bs' fr' s' (a.put o.dst v) w := by
  unfold putD at hs
  split at hs
  · rename_i hd
    obtain rfl : s = s' := by simpa using hs
    rw [hd]
    exact ⟨bs, b ++ fr, h⟩
  · rename_i d hd
    split at hs
    · rename_i hc
      rw [Bool.and_eq_true, Bool.and_eq_true, Bool.and_eq_true] at hc
      obtain ⟨h1, h2, h3, h4⟩ := hc
      have h1 := of_decide_eq_true h1
      obtain rfl : s.put d x = s' := by simpa using hs
      rw [hd]
      exact ⟨_, _, h.put (isU_iff h3) (hN ▸ h1) (fun y hy e => by have := hp y hy; rw [e] at this; simp [this] at h2) hx⟩
    · cases hs
theorem put_okH {x : AV} {v : Value} (h : RelX w0 A0 ps F bs fr s a w) (hN : a.tmps.size = c.N) (hp : ∀ y ∈ ps, y.1 ∈ c.pins) (hx : SV F s a w x v []) (hs : putD c o x s = some s') :
    ∃ bs' fr', RelX w0 A0 ps F bs' fr' s' (a.put o.dst v) w := by
  unfold putD at hs
  split at hs
  · rename_i hd
    obtain rfl : s = s' := by simpa using hs
    rw [hd]
    exact ⟨bs, fr, h⟩
  · rename_i d hd
    split at hs
    · rename_i hc
      rw [Bool.and_eq_true, Bool.and_eq_true, Bool.and_eq_true] at hc
      obtain ⟨h1, h2, h3, h4⟩ := hc
      have h1 := of_decide_eq_true h1
      obtain rfl : s.put d x = s' := by simpa using hs
      rw [hd]
      exact ⟨_, _, h.putH (isU_iff h3) (hN ▸ h1) (fun y hy e => by have := hp y hy; rw [e] at this; simp [this] at h2) hx⟩
    · cases hs
theorem putA_ok {b : List Nat} {x : AV} {v : Value} (h : RelX w0 A0 ps F bs (b ++ fr) s a w) (hN : a.tmps.size = c.N) (hp : ∀ y ∈ ps, y.1 ∈ c.pins) (hx : RV w F x v b) (hs : putA c o x s = some s') :
    ∃ bs' fr', RelX w0 A0 ps F bs' fr' s' (a.put o.dst v) w := by
  unfold putA at hs
  split at hs
  · cases hs
  · rename_i d hd
    split at hs
    · rename_i hc
      rw [Bool.and_eq_true, Bool.and_eq_true] at hc
      obtain ⟨h1, h2, h3⟩ := hc
      have h1 := of_decide_eq_true h1
      obtain rfl : ({ s.put d x with D := (d, 0) :: s.D } : St) = s' := by simpa using hs
      rw [hd]
      exact ⟨_, _, h.assign (hN ▸ h1) (fun y hy e => by have := hp y hy; rw [e] at this; simp [this] at h2) hx⟩
    · cases hs

/-! ### move, assign, pick -/
def aMove (P : Program) (c : Cfg) (o : Oper) (x : Operand) (s : St) : Option St :=
  match (ro P s o.type x).v with
  | .loc q p => if (ro P s o.type x).ok then putD c o (.loc q p) s else none
  | .bor q p => if (ro P s o.type x).ok then putD c o (.bor q p) s else none
  | v => if v.pure then putD c o v s else none
theorem aMove_ok {x : Operand} (hs : aMove P c o x s = some s') (ho : o.op = .move x) : Snd P c o s s' := by
  intro w0 A0 ps F bs fr a w hN hp h
  have hrun : Ran P o a w (a.eval x) w := .inl (by simp [execOp, ho])
  suffices hh : ∃ bs' fr', RelX w0 A0 ps F bs' fr' s' (a.put o.dst (a.eval x)) w by
    obtain ⟨bs', fr', h'⟩ := hh
    exact ⟨bs', fr', a.eval x, w, hrun, h'⟩
  unfold aMove at hs
  split at hs
  · rename_i q p hv
    split at hs
    · rename_i hok
      obtain ⟨e1, e2, q', st, rfl, e3⟩ := ro_loc h _ x hv hok
      exact put_okH (x := .loc q (q' ++ [st])) h hN hp ⟨rfl, fun _ => ⟨e2, q', st, rfl, e3⟩⟩ hs
    · cases hs
  · rename_i q p hv
    split at hs
    · rename_i hok
      obtain ⟨e1, e2, e3⟩ := ro_bor h _ x hv hok
      exact put_okH (x := .bor q p) h hN hp ⟨rfl, fun _ => ⟨e2, e3⟩⟩ hs
    · cases hs
  · split at hs
    · rename_i n1 n2 hpv
      obtain ⟨b, hb, _⟩ := ro_plain h o.type x (P := P) (by
        generalize (ro P s o.type x).v = z at *
        cases z <;> first | rfl | (simp [AV.pure, AV.pureC] at hpv))
      have := hb.pure_nil hpv
      subst this
      exact put_ok (b := []) h hN hp hb hs
    · cases hs

/-- nil as an owned row -/
def AV.ownify : AV → AV
  | .nils sz => .own sz []
  | v => v
theorem RV.ownify {x : AV} {v : Value} {b : List Nat} (h : RV w F x v b) : RV w F x.ownify v b := by
  cases h <;> first | exact RV.own0 _ _ | skip
  all_goals first
    | exact RV.undef _ | exact RV.int _ _ | exact RV.bool _ | exact RV.str _ | exact RV.fn _ | exact RV.own0 _ _
    | exact RV.list _ _ _ _ _ ‹_› ‹_› ‹_› ‹_› | exact RV.own _ _ _ _ _ _ _ ‹_› ‹_› ‹_› ‹_› ‹_› | exact RV.agg _ _ _ ‹_› | exact RV.tup _ _ _ ‹_›
    | exact RV.ref _ _ _ ‹_› ‹_› ‹_› | exact RV.box _ _ _ _ _ ‹_› ‹_›
def aAssign (P : Program) (c : Cfg) (o : Oper) (x : Operand) (s : St) : Option St :=
  match (ro P s o.type x).take with
  | some (v, wr) => putA c o v.ownify (s.apply wr)
  | none => none
theorem aAssign_ok {x : Operand} (hs : aAssign P c o x s = some s') (ho : o.op = .assign x) : Snd P c o s s' := by
  intro w0 A0 ps F bs fr a w hN hp h
  unfold aAssign at hs
  split at hs
  · rename_i v wr ht
    obtain ⟨b, bs1, hb, h1⟩ := ro_take h _ x ht
    obtain ⟨bs', fr', h'⟩ := putA_ok h1 hN hp hb.ownify hs
    exact ⟨bs', fr', a.eval x, w, .inl (by simp [execOp, ho]), h'⟩
  · cases hs

def aPick (P : Program) (c : Cfg) (o : Oper) (x y z : Operand) (s : St) : Option St :=
  match (ro P s o.type x).v with
  | .bool true => if (ro P s o.type y).v.pure then putD c o (ro P s o.type y).v s else none
  | .bool false => if (ro P s o.type z).v.pure then putD c o (ro P s o.type z).v s else none
  | _ => none
theorem pure_nH {v : AV} (h : v.pure = true) : v.isH = false := by
  cases v <;> first | rfl | (simp [AV.pure, AV.pureC] at h)
theorem aPick_ok {x y z : Operand} (hs : aPick P c o x y z s = some s') (ho : o.op = .pick x y z) : Snd P c o s s' := by
  intro w0 A0 ps F bs fr a w hN hp h
  unfold aPick at hs
  split at hs
  all_goals try (cases hs; done)
  all_goals
    rename_i hv
    obtain ⟨b, hb, _⟩ := ro_plain h o.type x (P := P) (by rw [hv]; rfl)
    rw [hv] at hb
    generalize hx : a.eval x = vx at hb
    cases hb
    split at hs
    · rename_i hpv
      obtain ⟨b', hb', _⟩ := ro_plain h o.type _ (P := P) (pure_nH hpv)
      have := hb'.pure_nil hpv
      subst this
      obtain ⟨bs', fr', h'⟩ := put_ok (b := []) h hN hp hb' hs
      exact ⟨bs', fr', _, w, .inl (by simp [execOp, ho, hx, asBool]), h'⟩
    · cases hs

/-! ### numbers, truth, text -/
def boolT (P : Program) (t : TypeId) : Bool := match P.underlying t with | some .bool => true | _ => false
def aBin (P : Program) (op : BinOp) (t : TypeId) (x y : AV) : Option AV := match x, y with
  | .int k m, .int k' n => if k = k' then (match op with
    | .add => some (.int k (k.wrap (m + n)))
    | .sub => some (.int k (k.wrap (m - n)))
    | .mul => some (.int k (k.wrap (m * n)))
    | .quo => if n = 0 then none else some (.int k (k.wrap (m.tdiv n)))
    | .rem => if n = 0 then none else some (.int k (m.tmod n))
    | .eql => some (.bool (m == n))
    | .neq => some (.bool (m != n))
    | .lss => some (.bool (decide (m < n)))
    | .leq => some (.bool (decide (m ≤ n)))
    | .gtr => some (.bool (decide (m > n)))
    | .geq => some (.bool (decide (m ≥ n)))
    | _ => none) else none
  | .bool m, .bool n => if boolT P t then (match op with
    | .eql => some (.bool (m == n))
    | .neq => some (.bool (!(m == n)))
    | _ => none) else none
  | .str m, .str n => match op with
    | .eql => some (.bool (m.toList == n.toList))
    | .neq => some (.bool (!(m.toList == n.toList)))
    | .lss => some (.bool (Op.bytesLess m.toList n.toList))
    | .add => if ((m.size + n.size : Nat) : Int) ≤ 9223372036854775807 then some (.str (m ++ n)) else none
    | _ => none
  | _, _ => none
def aBinOp (P : Program) (c : Cfg) (o : Oper) (op : BinOp) (t : TypeId) (x y : Operand) (s : St) : Option St :=
  (((ro P s t x).cont).bind fun u => ((ro P s t y).cont).bind fun v => aBin P op t u v).bind fun r => putD c o r s
theorem run_eq_bool {t : TypeId} (ht : P.underlying t = some .bool) (m n : Bool) (w : World) : (Op.equal t (.bool m) (.bool n)).run P w = .ok (m == n) w := by
  have h : ∀ d : Nat, (Op.equalIn (d + 1) t (.bool m) (.bool n)).run P w = .ok (m == n) w := fun d => by simp [Op.equalIn, run_underlying ht]
  exact h 9999
theorem aBin_ok {op : BinOp} {t : TypeId} {x y : Operand} {u v r : AV} {b1 b2 : List Nat} {vx vy : Value} (h : aBin P op t u v = some r) (hu : RV w F u vx b1) (hv : RV w F v vy b2) :
    ∃ vr, ((do eqGuard op t x y vx vy; binOp op t vx vy : Sem Value).run P w = .ok vr w) ∧ RV w F r vr [] := by
  unfold aBin at h
  split at h
  · cases hu; cases hv
    split at h
    · rename_i hk; subst hk
      split at h
      case h_4 | h_5 =>
        split at h
        · cases h
        · rename_i h0
          obtain rfl := by simpa using h
          exact ⟨_, by simp [eqGuard, binOp, Op.intDiv, h0], .int _ _⟩
      all_goals first
        | (cases h; done)
        | (obtain rfl := by simpa using h
           first
            | exact ⟨_, by simp [eqGuard, binOp, Op.intArith], .int _ _⟩
            | exact ⟨_, by simp [eqGuard, binOp, Op.intCmp], .bool _⟩)
    · cases h
  · cases hu; cases hv
    split at h
    · rename_i hb
      have hbt : P.underlying t = some .bool := by
        unfold boolT at hb; split at hb
        · assumption
        · cases hb
      split at h
      · obtain rfl := by simpa using h
        exact ⟨_, by simp only [eqGuard, binOp]; simp [run_eq_bool hbt], .bool _⟩
      · obtain rfl := by simpa using h
        exact ⟨_, by simp only [eqGuard, binOp]; simp [run_eq_bool hbt], .bool _⟩
      · cases h
    · cases h
  · cases hu; cases hv
    split at h
    · obtain rfl := by simpa using h
      exact ⟨_, by simp [eqGuard, binOp, Op.stringOp], .bool _⟩
    · obtain rfl := by simpa using h
      exact ⟨_, by simp [eqGuard, binOp, Op.stringOp], .bool _⟩
    · obtain rfl := by simpa using h
      exact ⟨_, by simp [eqGuard, binOp, Op.stringOp], .bool _⟩
    · split at h
      · rename_i hle
        obtain rfl := by simpa using h
        refine ⟨_, ?_, .str _⟩
        simp [eqGuard, binOp, Op.stringOp]
        omega
      · cases h
    · cases h
  · cases h
theorem aBinOp_ok {op : BinOp} {t ty : TypeId} {x y : Operand} (hs : aBinOp P c o op t x y s = some s') (ho : o.op = .binOp op t x y ty) : Snd P c o s s' := by
  intro w0 A0 ps F bs fr a w hN hp h
  simp only [aBinOp, Option.bind_eq_some_iff] at hs
  obtain ⟨r, ⟨u, hu, v, hv, hr⟩, hs⟩ := hs
  obtain ⟨b1, h1⟩ := ro_cont h _ x hu
  obtain ⟨b2, h2⟩ := ro_cont h _ y hv
  obtain ⟨vr, hrun, hrv⟩ := aBin_ok (x := x) (y := y) hr h1 h2
  obtain ⟨bs', fr', h'⟩ := put_ok (b := []) h hN hp hrv hs
  refine ⟨bs', fr', vr, w, .inl ?_, h'⟩
  simp only [execOp, ho, Sem.run_bind] at hrun ⊢
  simp [hrun]
end
end Go.AM
