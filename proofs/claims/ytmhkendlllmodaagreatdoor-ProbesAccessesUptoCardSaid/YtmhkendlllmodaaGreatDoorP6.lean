/- Texts of a proof by an abstract machine over the model. -/
import Derived.Test.YtmhkendlllmodaaGreatDoorP5
import Derived.Lib.SlicesCompact
import Derived.Lib.SlicesS
set_option linter.unusedSimpArgs false
set_option linter.unusedVariables false
namespace Go.Gv
open Go Go.FM
set_option maxRecDepth 100000
set_option maxHeartbeats 4000000
/-! ### the reference's check of a whole program, step by step -/
theorem nodup_not {α : Type} {l : List α} {i j : Nat} (hi : i < l.length) (hj : j < l.length) (hij : j < i) (h : l[j] = l[i]) : ¬ l.Nodup := by
  intro hn
  have := List.pairwise_iff_getElem.mp hn j i hj hi hij
  exact this h
theorem nodup_iff {α : Type} {l : List α} (h : ∀ (i j : Nat) (hi : i < l.length) (hj : j < l.length), j < i → l[j] ≠ l[i]) : l.Nodup := by
  refine List.pairwise_iff_getElem.mpr ?_
  intro i j hi hj hij
  exact h j i hj hi hij
theorem vf_head {p : Pg} (h : headP p = false) : validR p = false := by simp [validR, h]
theorem vf_g {p : Pg} {i : Nat} (hi : i < p.globals.length) (h : p.globals[i].nm = [] ∨ kindB p.globals[i].kind = false) : validR p = false := by
  have : p.globals.all (fun g => !decide (g.nm = []) && kindB g.kind) = false := by
    rw [← Bool.not_eq_true]
    intro hh
    have := List.all_eq_true.mp hh _ (List.getElem_mem hi)
    rcases h with h | h <;> simp [h] at this
  simp only [validR, this, Bool.false_and, Bool.and_false]
theorem vf_gg {p : Pg} {i j : Nat} (hi : i < p.globals.length) (hj : j < i) (h : (p.globals[j]'(by omega)).nm = p.globals[i].nm) : validR p = false := by
  have : ¬ (p.globals.map Gb.nm).Nodup := nodup_not (i := i) (j := j) (by simpa using hi) (by simp; omega) hj (by simpa using h)
  simp [validR, this]
theorem vf_f {p : Pg} {i : Nat} (hi : i < p.funcs.length) (h : fnR p p.funcs[i] = false) : validR p = false := by
  have : p.funcs.all (fnR p) = false := by
    rw [← Bool.not_eq_true]
    intro hh
    have := List.all_eq_true.mp hh _ (List.getElem_mem hi)
    simp [h] at this
  simp [validR, this]
theorem vf_ff {p : Pg} {i j : Nat} (hi : i < p.funcs.length) (hj : j < i) (h : (p.funcs[j]'(by omega)).nm = p.funcs[i].nm) : validR p = false := by
  have : ¬ (p.funcs.map FnD.nm).Nodup := nodup_not (i := i) (j := j) (by simpa using hi) (by simp; omega) hj (by simpa using h)
  simp [validR, this]
def gOk (p : Pg) (i : Nat) : Prop := (∀ k (hk : k < p.globals.length), k < i → ¬ p.globals[k].nm = [] ∧ kindB p.globals[k].kind = true) ∧ ∀ k j (hk : k < p.globals.length) (hj : j < p.globals.length), k < i → j < k → p.globals[j].nm ≠ p.globals[k].nm
def fOk (p : Pg) (i : Nat) : Prop := (∀ k (hk : k < p.funcs.length), k < i → fnR p p.funcs[k] = true) ∧ ∀ k j (hk : k < p.funcs.length) (hj : j < p.funcs.length), k < i → j < k → p.funcs[j].nm ≠ p.funcs[k].nm
def gDi (p : Pg) (i n : Nat) : Prop := ∀ j (hi : i < p.globals.length) (hj : j < p.globals.length), j < n → p.globals[j].nm ≠ p.globals[i].nm
def fDi (p : Pg) (i n : Nat) : Prop := ∀ j (hi : i < p.funcs.length) (hj : j < p.funcs.length), j < n → p.funcs[j].nm ≠ p.funcs[i].nm
theorem gOk_0 (p : Pg) : gOk p 0 := ⟨fun _ _ h => absurd h (by omega), fun _ _ _ _ h => absurd h (by omega)⟩
theorem fOk_0 (p : Pg) : fOk p 0 := ⟨fun _ _ h => absurd h (by omega), fun _ _ _ _ h => absurd h (by omega)⟩
theorem gDi_0 (p : Pg) (i : Nat) : gDi p i 0 := fun _ _ _ h => absurd h (by omega)
theorem fDi_0 (p : Pg) (i : Nat) : fDi p i 0 := fun _ _ _ h => absurd h (by omega)
theorem gDi_s {p : Pg} {i n : Nat} (h : gDi p i n) (hi : i < p.globals.length) (hn : n < p.globals.length) (e : p.globals[n].nm ≠ p.globals[i].nm) : gDi p i (n + 1) := by
  intro j hi' hj hjn
  by_cases hj' : j = n
  · subst hj'; exact e
  · exact h j hi' hj (by omega)
theorem fDi_s {p : Pg} {i n : Nat} (h : fDi p i n) (hi : i < p.funcs.length) (hn : n < p.funcs.length) (e : p.funcs[n].nm ≠ p.funcs[i].nm) : fDi p i (n + 1) := by
  intro j hi' hj hjn
  by_cases hj' : j = n
  · subst hj'; exact e
  · exact h j hi' hj (by omega)
theorem gOk_s {p : Pg} {i : Nat} (h : gOk p i) (hi : i < p.globals.length) (h1 : ¬ p.globals[i].nm = []) (h2 : kindB p.globals[i].kind = true) (hd : gDi p i i) : gOk p (i + 1) := by
  refine ⟨?_, ?_⟩
  · intro k hk hki
    by_cases e : k = i
    · subst e; exact ⟨h1, h2⟩
    · exact h.1 k hk (by omega)
  · intro k j hk hj hki hjk
    by_cases e : k = i
    · subst e; exact hd j hi hj hjk
    · exact h.2 k j hk hj (by omega) hjk
theorem fOk_s {p : Pg} {i : Nat} (h : fOk p i) (hi : i < p.funcs.length) (h1 : fnR p p.funcs[i] = true) (hd : fDi p i i) : fOk p (i + 1) := by
  refine ⟨?_, ?_⟩
  · intro k hk hki
    by_cases e : k = i
    · subst e; exact h1
    · exact h.1 k hk (by omega)
  · intro k j hk hj hki hjk
    by_cases e : k = i
    · subst e; exact hd j hi hj hjk
    · exact h.2 k j hk hj (by omega) hjk
theorem vt {p : Pg} (h : headP p = true) (hg : gOk p p.globals.length) (hf : fOk p p.funcs.length) : validR p = true := by
  have a1 : p.globals.all (fun g => !decide (g.nm = []) && kindB g.kind) = true := by
    rw [List.all_eq_true]
    intro g hm
    obtain ⟨k, hk, rfl⟩ := List.getElem_of_mem hm
    simp [hg.1 k hk hk]
  have a2 : (p.globals.map Gb.nm).Nodup := nodup_iff (by
    intro i j hi hj hij
    simp only [List.length_map] at hi hj
    simpa using hg.2 i j hi hj hi hij)
  have a3 : p.funcs.all (fnR p) = true := by
    rw [List.all_eq_true]
    intro g hm
    obtain ⟨k, hk, rfl⟩ := List.getElem_of_mem hm
    exact hf.1 k hk hk
  have a4 : (p.funcs.map FnD.nm).Nodup := nodup_iff (by
    intro i j hi hj hij
    simp only [List.length_map] at hi hj
    simpa using hf.2 i j hi hj hi hij)
  simp only [validR, h, a1, a2, a3, a4, decide_true, Bool.and_true]
def layR (l : List (List Int)) : Bool := l.all layB && decide (l.length ≤ 32)
theorem head_cases (p : Pg) : ((64 : Int) < (p.funcs.length : Int) ∧ headP p = false) ∨ (¬ (64 : Int) < (p.funcs.length : Int) ∧ (64 : Int) < (p.globals.length : Int) ∧ headP p = false) ∨
    (¬ (64 : Int) < (p.funcs.length : Int) ∧ ¬ (64 : Int) < (p.globals.length : Int) ∧ layR p.layouts = false ∧ headP p = false) ∨
    (¬ (64 : Int) < (p.funcs.length : Int) ∧ ¬ (64 : Int) < (p.globals.length : Int) ∧ layR p.layouts = true ∧ p.main < 0 ∧ headP p = false) ∨
    (¬ (64 : Int) < (p.funcs.length : Int) ∧ ¬ (64 : Int) < (p.globals.length : Int) ∧ layR p.layouts = true ∧ ¬ p.main < 0 ∧ (p.funcs.length : Int) ≤ p.main ∧ headP p = false) ∨
    (¬ (64 : Int) < (p.funcs.length : Int) ∧ ¬ (64 : Int) < (p.globals.length : Int) ∧ layR p.layouts = true ∧ ¬ p.main < 0 ∧ ¬ (p.funcs.length : Int) ≤ p.main ∧
      ∃ z : FnD, 0 ≤ p.main ∧ p.funcs[p.main.toNat]? = some z ∧ ¬ z.params = 0 ∧ headP p = false) ∨
    (¬ (64 : Int) < (p.funcs.length : Int) ∧ ¬ (64 : Int) < (p.globals.length : Int) ∧ layR p.layouts = true ∧ ¬ p.main < 0 ∧ ¬ (p.funcs.length : Int) ≤ p.main ∧
      ∃ z : FnD, 0 ≤ p.main ∧ p.funcs[p.main.toNat]? = some z ∧ z.params = 0 ∧ headP p = true) := by
  by_cases h1 : p.funcs.length ≤ 64
  case neg => exact .inl ⟨by omega, by simp [headP]; omega⟩
  have h1' : ¬ (64 : Int) < (p.funcs.length : Int) := by omega
  refine .inr ?_
  by_cases h2 : p.globals.length ≤ 64
  case neg => exact .inl ⟨h1', by omega, by simp [headP]; omega⟩
  have h2' : ¬ (64 : Int) < (p.globals.length : Int) := by omega
  refine .inr ?_
  cases h3 : layR p.layouts with
  | false => exact .inl ⟨h1', h2', rfl, by
      simp only [layR, Bool.and_eq_false_iff] at h3
      rcases h3 with h3 | h3 <;> simp only [headP, h3, Bool.false_and, Bool.and_false]⟩
  | true =>
    refine .inr ?_
    simp only [layR, Bool.and_eq_true] at h3
    by_cases h4 : p.main < 0
    · exact .inl ⟨h1', h2', rfl, h4, by
        have : decide (0 ≤ p.main) = false := by simp; omega
        simp only [headP, this, Bool.false_and, Bool.and_false]⟩
    refine .inr ?_
    by_cases h5 : (p.funcs.length : Int) ≤ p.main
    · exact .inl ⟨h1', h2', rfl, h4, h5, by
        have : decide (p.main < (p.funcs.length : Int)) = false := by simp; omega
        simp only [headP, this, Bool.false_and, Bool.and_false]⟩
    refine .inr ?_
    have hm : 0 ≤ p.main := by omega
    have hi : p.main.toNat < p.funcs.length := by omega
    have hp : parAt p.funcs p.main = (p.funcs[p.main.toNat]).params := parAt_def _ _ hi
    by_cases h6 : (p.funcs[p.main.toNat]).params = 0
    · refine .inr ⟨h1', h2', rfl, h4, h5, _, hm, List.getElem?_eq_getElem hi, h6, ?_⟩
      have e1 : decide (0 ≤ p.main) = true := by simp; omega
      have e2 : decide (p.main < (p.funcs.length : Int)) = true := by simp; omega
      have e3 : decide (parAt p.funcs p.main = 0) = true := by rw [hp]; simp [h6]
      simp only [headP, e1, e2, e3, h3.1, h3.2, h1, h2, decide_true, Bool.and_true]
    · refine .inl ⟨h1', h2', rfl, h4, h5, _, hm, List.getElem?_eq_getElem hi, h6, ?_⟩
      have e3 : decide (parAt p.funcs p.main = 0) = false := by rw [hp]; simp [h6]
      simp only [headP, e3, Bool.false_and, Bool.and_false]
theorem eq_cases (a b : List UInt8) : ((a == b) = true ∧ a = b) ∨ ((a == b) = false ∧ ¬ a = b) := by
  by_cases h : a = b
  · left; simp [h]
  · right; simp [h]
theorem gb_cases (k : Int) : (k = 0 ∧ kindB k = true) ∨ (¬ k = 0 ∧ k = 1 ∧ kindB k = true) ∨ (¬ k = 0 ∧ ¬ k = 1 ∧ kindB k = false) := by
  by_cases h : k = 0
  · left; simp [h, kindB]
  · by_cases h' : k = 1
    · right; left; simp [h', kindB]
    · right; right; simp [h, h', kindB]
end Go.Gv
namespace Go.Gv
open Go Go.FM
set_option maxRecDepth 100000
set_option maxHeartbeats 4000000
/-! ### the code's check of a whole program, step by step -/
theorem all_from {α : Type} (l : List α) (q : α → Bool) {i : Nat} (h : i < l.length) : (l.drop i).all q = (q l[i] && (l.drop (i + 1)).all q) := by
  rw [List.drop_eq_getElem_cons h, List.all_cons]
def vI3 (p : Pg) : Bool := uniq (p.funcs.map FnD.nm) && uniq (p.globals.map Gb.nm)
def vI2 (p : Pg) (i : Nat) : Bool := (p.funcs.drop i).all (fnI p) && vI3 p
def vI1 (p : Pg) (i : Nat) : Bool := (p.globals.drop i).all (fun g => kindB g.kind) && vI2 p 0
def vI0 (p : Pg) (i : Nat) : Bool := (p.layouts.drop i).all layB && vI1 p 0
theorem vI0_at {p : Pg} {i : Nat} (h : i < p.layouts.length) : vI0 p i = (layB p.layouts[i] && vI0 p (i + 1)) := by
  unfold vI0; rw [all_from _ _ h, Bool.and_assoc]
theorem vI1_at {p : Pg} {i : Nat} (h : i < p.globals.length) : vI1 p i = (kindB p.globals[i].kind && vI1 p (i + 1)) := by
  unfold vI1; rw [all_from _ _ h, Bool.and_assoc]
theorem vI2_at {p : Pg} {i : Nat} (h : i < p.funcs.length) : vI2 p i = (fnI p p.funcs[i] && vI2 p (i + 1)) := by
  unfold vI2; rw [all_from _ _ h, Bool.and_assoc]
theorem vI0_end (p : Pg) : vI0 p p.layouts.length = vI1 p 0 := by simp [vI0]
theorem vI1_end (p : Pg) : vI1 p p.globals.length = vI2 p 0 := by simp [vI1]
theorem vI2_end (p : Pg) : vI2 p p.funcs.length = vI3 p := by simp [vI2]
theorem vI3_names (p : Pg) : vI3 p = (uniq ((p.funcs.map FnD.name).map (·.data.toList)) && uniq ((p.globals.map Gb.name).map (·.data.toList))) := by
  simp [vI3, List.map_map]; rfl
theorem layB_big {l : List Int} (h : (64 : Int) < (l.length : Int)) : layB l = false := by
  have : ¬ l.length ≤ 64 := by omega
  simp [layB, this]
theorem layB_in {l : List Int} (h : ¬ (64 : Int) < (l.length : Int)) : layB l = l.all kindB := by
  have : l.length ≤ 64 := by omega
  simp [layB, this]
theorem head_casesI (p : Pg) : ((64 : Int) < (p.funcs.length : Int) ∧ validI p = false) ∨ (¬ (64 : Int) < (p.funcs.length : Int) ∧ (64 : Int) < (p.globals.length : Int) ∧ validI p = false) ∨
    (¬ (64 : Int) < (p.funcs.length : Int) ∧ ¬ (64 : Int) < (p.globals.length : Int) ∧ (32 : Int) < (p.layouts.length : Int) ∧ validI p = false) ∨
    (¬ (64 : Int) < (p.funcs.length : Int) ∧ ¬ (64 : Int) < (p.globals.length : Int) ∧ ¬ (32 : Int) < (p.layouts.length : Int) ∧ ¬ (0 ≤ p.main ∧ p.main < (p.funcs.length : Int)) ∧ validI p = false) ∨
    (¬ (64 : Int) < (p.funcs.length : Int) ∧ ¬ (64 : Int) < (p.globals.length : Int) ∧ ¬ (32 : Int) < (p.layouts.length : Int) ∧ (0 ≤ p.main ∧ p.main < (p.funcs.length : Int)) ∧
      ∃ hz : p.main.toNat < p.funcs.length, ¬ (p.funcs[p.main.toNat]).params = 0 ∧ validI p = false) ∨
    (¬ (64 : Int) < (p.funcs.length : Int) ∧ ¬ (64 : Int) < (p.globals.length : Int) ∧ ¬ (32 : Int) < (p.layouts.length : Int) ∧ (0 ≤ p.main ∧ p.main < (p.funcs.length : Int)) ∧
      ∃ hz : p.main.toNat < p.funcs.length, (p.funcs[p.main.toNat]).params = 0 ∧ vI0 p 0 = validI p) := by
  have hf : headP p = false → validI p = false := fun h => by simp [validI, h]
  by_cases h1 : p.funcs.length ≤ 64
  case neg => exact .inl ⟨by omega, hf (by simp [headP]; omega)⟩
  have h1' : ¬ (64 : Int) < (p.funcs.length : Int) := by omega
  refine .inr ?_
  by_cases h2 : p.globals.length ≤ 64
  case neg => exact .inl ⟨h1', by omega, hf (by simp [headP]; omega)⟩
  have h2' : ¬ (64 : Int) < (p.globals.length : Int) := by omega
  refine .inr ?_
  by_cases h3 : p.layouts.length ≤ 32
  case neg => exact .inl ⟨h1', h2', by omega, hf (by simp [headP]; omega)⟩
  have h3' : ¬ (32 : Int) < (p.layouts.length : Int) := by omega
  refine .inr ?_
  by_cases h4 : 0 ≤ p.main ∧ p.main < (p.funcs.length : Int)
  case neg =>
    refine .inl ⟨h1', h2', h3', h4, hf ?_⟩
    have : (decide (0 ≤ p.main) && decide (p.main < (p.funcs.length : Int))) = false := by
      rw [← Bool.not_eq_true]; intro hh; simp at hh; omega
    simp only [headP, this, Bool.false_and, Bool.and_false]
  refine .inr ?_
  have hi : p.main.toNat < p.funcs.length := by omega
  have hp : parAt p.funcs p.main = (p.funcs[p.main.toNat]).params := parAt_def _ _ hi
  by_cases h6 : (p.funcs[p.main.toNat]).params = 0
  · refine .inr ⟨h1', h2', h3', h4, hi, h6, ?_⟩
    have e1 : decide (0 ≤ p.main) = true := by simp; omega
    have e2 : decide (p.main < (p.funcs.length : Int)) = true := by simp; omega
    have e3 : decide (parAt p.funcs p.main = 0) = true := by rw [hp]; simp [h6]
    simp only [validI, headP, e1, e2, e3, h1, h2, h3, decide_true, Bool.and_true, Bool.true_and, vI0, vI1, vI2, vI3, List.drop_zero]
  · refine .inl ⟨h1', h2', h3', h4, hi, h6, hf ?_⟩
    have e3 : decide (parAt p.funcs p.main = 0) = false := by rw [hp]; simp [h6]
    simp only [headP, e3, Bool.false_and, Bool.and_false]
end Go.Gv
namespace Go.Gv
open Go Go.FM
set_option maxRecDepth 100000
set_option maxHeartbeats 4000000
/-! ### the places of accesses -/
def accOp (n : Int) : Bool := decide (n = 33) || decide (n = 34)
theorem accOp_cases (n : Int) : (n = 33 ∧ accOp n = true) ∨ (¬ n = 33 ∧ n = 34 ∧ accOp n = true) ∨ (¬ n = 33 ∧ ¬ n = 34 ∧ accOp n = false) := by
  by_cases h : n = 33
  · left; simp [h, accOp]
  · by_cases h' : n = 34
    · right; left; simp [h', accOp]
    · right; right; simp [h, h', accOp]
def accC (f : Nat) (code : List Ins) (j : Nat) : List (Int × Int) := ((List.range j).filter (fun (k : Nat) => accOp (opAt code (k : Int)))).map (fun (k : Nat) => ((f : Int), (k : Int)))
def accP (fs : List FnD) : Nat → List (Int × Int)
  | 0 => []
  | i + 1 => accP fs i ++ (match fs[i]? with | some y => accC i y.code y.code.length | none => [])
theorem opAt_at {code : List Ins} {j : Nat} (h : j < code.length) : opAt code (j : Int) = code[j].op := by
  rw [opAt_def _ _ (by simpa using h)]; rfl
theorem accC_0 (f : Nat) (code : List Ins) : accC f code 0 = [] := rfl
theorem accC_yes {f : Nat} {code : List Ins} {j : Nat} (h : j < code.length) (ha : accOp code[j].op = true) : accC f code (j + 1) = accC f code j ++ [((f : Int), (j : Int))] := by
  unfold accC
  rw [List.range_succ, List.filter_append, List.map_append]
  simp [opAt_at h, ha]
theorem accC_no {f : Nat} {code : List Ins} {j : Nat} (h : j < code.length) (ha : accOp code[j].op = false) : accC f code (j + 1) = accC f code j := by
  unfold accC
  rw [List.range_succ, List.filter_append, List.map_append]
  simp [opAt_at h, ha]
theorem accC_len (f : Nat) (code : List Ins) (j : Nat) : (accC f code j).length ≤ j := by
  unfold accC
  rw [List.length_map]
  exact Nat.le_trans (List.length_filter_le _ _) (by simp)
theorem accP_0 (fs : List FnD) : accP fs 0 = [] := rfl
theorem accP_s {fs : List FnD} {i : Nat} (h : i < fs.length) : accP fs (i + 1) = accP fs i ++ accC i fs[i].code fs[i].code.length := by
  rw [accP, List.getElem?_eq_getElem h]
theorem accP_len {fs : List FnD} (hb : ∀ x ∈ fs, x.code.length ≤ 2000000) : ∀ i, i ≤ fs.length → (accP fs i).length ≤ i * 2000000
  | 0, _ => by simp [accP]
  | i + 1, h => by
    have ih := accP_len hb i (by omega)
    rw [accP_s (by omega), List.length_append]
    have h1 := accC_len i fs[i].code fs[i].code.length
    have h2 := hb _ (List.getElem_mem (show i < fs.length by omega))
    omega
theorem acc_len {fs : List FnD} (hb : ∀ x ∈ fs, x.code.length ≤ 2000000) {i j : Nat} (hi : i < fs.length) (hj : j ≤ fs[i].code.length) : (accP fs i ++ accC i fs[i].code j).length ≤ i * 2000000 + j := by
  have := accP_len hb i (by omega)
  have := accC_len i fs[i].code j
  rw [List.length_append]; omega
def acc2 (fs : List FnD) (i j : Nat) : List (Int × Int) := accP fs i ++ (match fs[i]? with | some y => accC i y.code j | none => [])
theorem acc2_0 (fs : List FnD) (i : Nat) : acc2 fs i 0 = accP fs i := by
  unfold acc2; cases fs[i]? <;> simp [accC_0]
theorem acc2_yes {fs : List FnD} {i j : Nat} (hi : i < fs.length) (h : j < fs[i].code.length) (ha : accOp fs[i].code[j].op = true) : acc2 fs i (j + 1) = acc2 fs i j ++ [((i : Int), (j : Int))] := by
  simp only [acc2, List.getElem?_eq_getElem hi, accC_yes h ha, List.append_assoc]
theorem acc2_no {fs : List FnD} {i j : Nat} (hi : i < fs.length) (h : j < fs[i].code.length) (ha : accOp fs[i].code[j].op = false) : acc2 fs i (j + 1) = acc2 fs i j := by
  simp only [acc2, List.getElem?_eq_getElem hi, accC_no h ha]
theorem acc2_end {fs : List FnD} {i : Nat} (hi : i < fs.length) : accP fs (i + 1) = acc2 fs i fs[i].code.length := by
  rw [accP_s hi]; simp only [acc2, List.getElem?_eq_getElem hi]
theorem acc2_len {fs : List FnD} (hb : ∀ x ∈ fs, x.code.length ≤ 2000000) {i j : Nat} (hi : i < fs.length) (hj : j ≤ fs[i].code.length) : (acc2 fs i j).length ≤ i * 2000000 + j := by
  have := acc_len hb hi hj
  simpa only [acc2, List.getElem?_eq_getElem hi] using this
def sites (b : Bool) (p : Pg) : List (Int × Int) := if b then accP p.funcs p.funcs.length else []
/-! ### the law's measure of a program -/
def mx0 (n : Int) : Int := if n > 0 then n else 0
def grN (p : Pg) : Nat → Int
  | 0 => W ((p.globals.length : Int) + (p.layouts.length : Int))
  | i + 1 => match p.funcs[i]? with
    | some y => W (grN p i + W (W (1 + (y.code.length : Int)) + W ((mx0 y.regs).tdiv 4)))
    | none => grN p i
theorem grN_s {p : Pg} {i : Nat} (h : i < p.funcs.length) : grN p (i + 1) = W (grN p i + W (W (1 + (p.funcs[i].code.length : Int)) + W ((mx0 p.funcs[i].regs).tdiv 4))) := by
  rw [grN, List.getElem?_eq_getElem h]
def great (p : Pg) : Bool := decide (120 < grN p p.funcs.length)
theorem valid_sites {p : Pg} (h : validI p = true) (hfc : ∀ x ∈ p.funcs, x.code.length ≤ 2000000) : (accP p.funcs p.funcs.length).length ≤ 1000000000 := by
  have h1 : p.funcs.length ≤ 64 := by
    simp only [validI, headP, Bool.and_eq_true, decide_eq_true_eq] at h
    exact h.1.1.1.1.1.1
  have := accP_len hfc p.funcs.length (Nat.le_refl _)
  omega
end Go.Gv
namespace Go.Gv
open Go Go.Lib
/-! ### names are distinct: sorted, compacted, of the same length -/
theorem lle_total (a b : List UInt8) : a ≤ b ∨ b ≤ a := List.le_total a b
theorem sorted_ms (l : List (List UInt8)) : (l.mergeSort fun x y => decide (x ≤ y)).Pairwise (fun a b => a ≤ b) := by
  have := List.pairwise_mergeSort (le := fun (x y : List UInt8) => decide (x ≤ y)) (by
    intro a b c h1 h2
    simp only [decide_eq_true_eq] at h1 h2 ⊢
    exact List.le_trans h1 h2) (by
    intro a b
    simpa using List.le_total a b) l
  exact this.imp (by intro a b h; simpa using h)
theorem nodup_sorted {l : List (List UInt8)} (hs : l.Pairwise (fun a b => a ≤ b)) (h : ∀ j, j < l.length → keeps l.toArray j = true) : l.Nodup := by
  refine List.pairwise_iff_getElem.mpr ?_
  intro i j hi hj hij he
  have hk := h (i + 1) (by omega)
  have hs' := List.pairwise_iff_getElem.mp hs
  simp only [keeps, decide_eq_true_eq, Nat.add_sub_cancel] at hk
  have e1 : l.toArray[i + 1]! = l[i + 1]'(by omega) := by simp [getElem!_pos, show i + 1 < l.length by omega]
  have e2 : l.toArray[i]! = l[i]'(by omega) := by simp [getElem!_pos, hi]
  rw [e1, e2] at hk
  rcases hk with hk | hk
  · omega
  apply hk
  refine List.le_antisymm ?_ (hs' i (i + 1) (by omega) (by omega) (by omega))
  by_cases hij' : i + 1 = j
  · subst hij'; rw [← he]; exact List.le_refl _
  · have := hs' (i + 1) j (by omega) hj (by omega)
    rw [he]; exact this
theorem keeps_nodup {l : List (List UInt8)} (h : l.Nodup) : ∀ j, j < l.length → keeps l.toArray j = true := by
  intro j hj
  simp only [keeps, decide_eq_true_eq]
  by_cases h0 : j = 0
  · exact .inl h0
  · right
    have e1 : l.toArray[j]! = l[j] := by simp [getElem!_pos, hj]
    have e2 : l.toArray[j - 1]! = l[j - 1]'(by omega) := by simp [getElem!_pos, show j - 1 < l.length by omega]
    rw [e1, e2]
    exact fun e => List.pairwise_iff_getElem.mp h (j - 1) j (by omega) hj (by omega) e.symm
theorem compact_len {l : List (List UInt8)} (hs : l.Pairwise (fun a b => a ≤ b)) : (compact l).length = l.length ↔ l.Nodup := by
  constructor
  · intro h
    refine nodup_sorted hs fun j hj => ?_
    have h2 : ((List.range l.length).filter (keeps l.toArray)).length = (List.range l.length).length := by simpa [compact, compactUpTo] using h
    exact List.filter_eq_self.mp (List.filter_sublist.eq_of_length h2) j (by simpa using hj)
  · intro h
    rw [compact_all l (keeps_nodup h)]
theorem uniq_eq (l : List (List UInt8)) : (!(decide ([] ∈ l)) && decide ((compact (l.mergeSort fun x y => decide (x ≤ y))).length = l.length)) = uniq l := by
  have hp := List.mergeSort_perm l (fun x y => decide (x ≤ y))
  have h1 := compact_len (sorted_ms l)
  rw [hp.length_eq] at h1
  rw [hp.nodup_iff] at h1
  simp only [uniq, h1, Bool.and_comm, ← decide_not]
end Go.Gv
