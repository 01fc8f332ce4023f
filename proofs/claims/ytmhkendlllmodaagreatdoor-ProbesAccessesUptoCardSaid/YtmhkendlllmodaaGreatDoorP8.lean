/- Texts of a proof by an abstract machine over the model. -/
import Derived.Test.YtmhkendlllmodaaGreatDoorP7
set_option linter.unusedSimpArgs false
set_option linter.unusedVariables false
namespace Go.Gc
open Go Go.FM Go.RowKit Go.Proofs

noncomputable def orcK (hp : Hp) (n : Nat) : List FV → Option (FV × Hp × Nat)
  | [.nils, .clo 118 [] [.ptr l 1 0 0]] => match toH hp l with
    | some (.cells _ 1 [[.mp k]]) => match toH hp k with
      | some (.map [] _) => some (.nils, hp, n)
      | some (.map [(.int .i64 a, _, born)] clk) => if (Lit.int .i64 a).wf && decide (born < clk) then (if decide (n < 2 ^ hpD) && (toH hp [n]).isNone then some (.sl [n] 1 0 1, hp.setF (.cells 3 1 [[.int .i64 a]]) hpD n, n + 1) else none) else none
      | _ => none
    | _ => none
  | _ => none
def orcT (hp : Hp) (n : Nat) : List FV → Option (FV × Hp × Nat)
  | [.int .u64 x] => if decide (0 ≤ x) && decide (x < 18446744073709551616) then some (.int .i64 (Lib.ctz 64 x.toNat), hp, n) else none
  | _ => none
noncomputable def tabP : Option (FV × Hp × Nat) := xCall Tryz.prog (fun _ _ _ _ => none) 5 5 0 130 [] .nil 0
def orcD (t : FV) (hp : Hp) (n : Nat) : List FV → Option (FV × Hp × Nat)
  | [] => some (t, hp, n)
  | _ => none
def fstO : Option (FV × Hp × Nat) → FV
  | some (r, _, _) => r
  | none => .undef
theorem fstO_ok : ∀ o : Option (FV × Hp × Nat), o.isSome = true → ∃ hp n, o = some (fstO o, hp, n)
  | some (_, hp, n), _ => ⟨hp, n, rfl⟩
noncomputable def tab : FV := fstO tabP
theorem tab_ok : ∃ hp n, tabP = some (tab, hp, n) := fstO_ok tabP (by kernel_rfl)
noncomputable def orc : Orc := fun f A hp n => match f with
  | 117 => orcK hp n A
  | 79 => orcT hp n A
  | 130 => orcD tab hp n A
  | _ => none
theorem tab_pc : PC Tryz.prog Gl 130 [] tab := by
  obtain ⟨hp, n, h⟩ := tab_ok
  have hc := (xCall_ok (P := Tryz.prog) (G := Gl) (orc := fun _ _ _ _ => none) (fun _ _ _ _ _ _ _ h => by cases h) 5 5 0 130 [] .nil 0 tab hp n h).1
  have h0 : toH .nil = noH := by
    funext l
    rcases loc_cases l with ⟨k, rfl⟩ | hl
    · rw [toH_eq, T.get_nil]; simp [noH]
    · exact toH_other _ l hl
  rw [h0] at hc
  exact PC_of_FC hc (by kernel_rfl)
theorem orc_ok : OrcOk Tryz.prog Gl orc := by
  intro f A hp n r hp' n' h
  unfold orc at h
  split at h
  · unfold orcK at h
    split at h
    case h_2 => cases h
    rename_i l
    split at h
    case h_2 => cases h
    rename_i k hl
    split at h
    · rename_i hk
      simp only [Option.some.injEq, Prod.mk.injEq] at h
      obtain ⟨rfl, rfl, rfl⟩ := h
      exact ⟨keys0_fc hl hk, fun _ _ => rfl⟩
    · rename_i a v0 born clk hk
      split at h
      case isFalse => cases h
      rename_i h1
      split at h
      case isFalse => cases h
      rename_i h2
      simp only [Bool.and_eq_true, decide_eq_true_eq, Option.isNone_iff_eq_none] at h1 h2
      simp only [Option.some.injEq, Prod.mk.injEq] at h
      obtain ⟨rfl, rfl, rfl⟩ := h
      rw [toH_setF _ _ _ h2.1]
      refine ⟨keys1_fc hl hk h1.1 h1.2 h2.2, fun j hj => ?_⟩
      have : [j] ≠ [n] := fun e => by
        have := (List.cons.inj e).1
        omega
      simp only [upd, this, if_false]
    · cases h
  · unfold orcT at h
    split at h
    case h_2 => cases h
    rename_i x
    split at h
    case isFalse => cases h
    rename_i hx
    simp only [Bool.and_eq_true, decide_eq_true_eq] at hx
    simp only [Option.some.injEq, Prod.mk.injEq] at h
    obtain ⟨rfl, rfl, rfl⟩ := h
    have := tz_fc x.toNat (by omega) (toH hp)
    rw [Int.toNat_of_nonneg hx.1] at this
    exact ⟨this, fun _ _ => rfl⟩
  · unfold orcD at h
    split at h
    case h_2 => cases h
    simp only [Option.some.injEq, Prod.mk.injEq] at h
    obtain ⟨rfl, rfl, rfl⟩ := h
    exact ⟨tab_pc.lift rfl _, fun _ _ => rfl⟩
  · cases h
noncomputable def awakeB : Bool := match xCall Tryz.prog orc 200 50 0 7 [] .nil 0 with
  | some (.bool true, _, _) => true
  | _ => false
theorem awake_run : awakeB = true := by kernel_rfl
theorem awake_pc : PC Tryz.prog Gl 7 [] (.bool true) := by
  have h := awake_run
  unfold awakeB at h
  split at h
  · rename_i hp n hr
    have hc := (xCall_ok orc_ok 200 50 0 7 [] .nil 0 (.bool true) hp n hr).1
    have h0 : toH .nil = noH := by
      funext l
      rcases loc_cases l with ⟨k, rfl⟩ | hl
      · rw [toH_eq, T.get_nil]; simp [noH]
      · exact toH_other _ l hl
    rw [h0] at hc
    exact PC_of_FC hc rfl
  · cases h
end Go.Gc
