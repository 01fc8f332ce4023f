/- Proved here: the law 'GroupOrderOfAdditions' returns true for every input, and every argument reads behind the call as it read before. Conditions: none beyond the given statement's own. -/
import Derived.Test.YthlhjepijodemaaRows
import Derived.Test.YthlhjepijodemaaAmU
import Derived.Test.YthlhjepijodemaaGaK
set_option linter.unusedSimpArgs false
set_option linter.unusedVariables false

namespace Go.Proofs.Ythlhjepijodemaa.groupOrderOfAdditionsDone
open Go Go.AM Go.Ga Go.ChangeShapes Go.WideShapes Go.ChangeAt Go.RowKit

theorem own : ownKnob Try.prog.godebug = none := by kernel_rfl
theorem laidOut : laidOutB Try.prog = true := by kernel_rfl

set_option maxRecDepth 100000 in
theorem lifted (os : Os) (started : os.Started) (H : Type) (enc : TypeId × Value → H) :
    ReturnsInHanded {} Try.checked os 7 .any (Rows.groupOrderOfAdditionsSpec.pre6 enc Try.prog Try.f7 Rows.groupOrderOfAdditionsRow.domain false) (Rows.groupOrderOfAdditionsSpec.post enc Try.prog Try.f7 false true false false) := by
  refine returnsInHanded_of_change (C := Try.checked) own started (by kernel_rfl) Try.func7
    (ChangeSpec.witness6 (enc := enc) (C := Try.checked) false ⟨#[], #[.agg #[.int .i64 0, .int .i64 0, .int .i64 0, .int .i64 0, .slice none 0 0, .int .i64 0], .int .u32 0, .int .u32 0], []⟩ 8 (by kernel_rfl) (by kernel_rfl) (by kernel_rfl) (by kernel_rfl)) ?_
  intro W base args ds gs before hval0 hW hcnd _
  have hval : ∀ (j : Nat) t v, Try.f7.params[j]? = some t → args[j]? = some v → Value.okWide Try.prog W .any base t v := hval0
  have hW' := hW
  obtain ⟨p, q, hA0, hV, rfl, hfz, hnd⟩ := hW
  have hA : DataW.TrodAll enc Try.prog W 0 (fun _ => true) true Try.f7.params.toList args.toList ds p := hA0
  rw [Try.params7] at hA hval
  obtain ⟨v0, vs0, d0, ds0, p0, q0, hargs, rfl, rfl, h0, r0⟩ := trodAll_cons hA
  obtain ⟨v1, vs1, d1, ds1, p1, q1, rfl, rfl, rfl, h1, r1⟩ := trodAll_cons r0
  obtain ⟨v2, vs2, d2, ds2, p2, q2, rfl, rfl, rfl, h2, r2⟩ := trodAll_cons r1
  obtain ⟨rfl, rfl, rfl⟩ := trodAll_nil r2
  obtain rfl : args = #[v0, v1, v2] := by cases args; simp_all
  obtain ⟨rfl, rfl⟩ := trodVars_none hV
  have k0 := h0
  have lt0 : ∀ x ∈ p0, x.block < W.heap.size := by obtain ⟨m, hm⟩ := k0; exact DataW.trod_lt m _ _ _ hm
  have k1 := h1
  have lt1 : ∀ x ∈ p1, x.block < W.heap.size := by obtain ⟨m, hm⟩ := k1; exact DataW.trod_lt m _ _ _ hm
  have k2 := h2
  have lt2 : ∀ x ∈ p2, x.block < W.heap.size := by obtain ⟨m, hm⟩ := k2; exact DataW.trod_lt m _ _ _ hm
  obtain ⟨s0, s1, s2, s3, s4, s5, y0, y1, y2, y3, y4, y5, n0, rfl, e0, e1, e2, e3, e4, e5⟩ := open_agg6 Try.underlying24 (by kernel_rfl) (by kernel_rfl) (hval 0 24 v0 rfl rfl) h0
  obtain ⟨a, rfl, wa⟩ := rd_int Try.underlying3 e0
  obtain ⟨b, rfl, wb⟩ := rd_int Try.underlying3 e1
  obtain ⟨k, rfl, wk⟩ := rd_int Try.underlying3 e2
  obtain ⟨o, rfl, wo⟩ := rd_int Try.underlying3 e3
  obtain ⟨rs, hrs, wrs⟩ := rd_ints Try.underlying22 Try.underlying3 (by kernel_rfl) e4
  obtain ⟨n, rfl, wn⟩ := rd_int Try.underlying3 e5
  obtain ⟨x, rfl, _, _, wx⟩ := open_int Try.underlying37 (hval 1 37 v1 rfl rfl) h1
  obtain ⟨y, rfl, _, _, wy⟩ := open_int Try.underlying37 (hval 2 37 v2 rfl rfl) h2
  clear hA0 hval0
  refine (OC.law (c7 a b k o rs n x y (by have h := wf_range wx; have e1 : IntKind.min .u32 = 0 := (by decide); have e2 : IntKind.max .u32 = 4294967295 := (by decide); rw [e1, e2] at h; exact h) (by have h := wf_range wy; have e1 : IntKind.min .u32 = 0 := (by decide); have e2 : IntKind.max .u32 = 4294967295 := (by decide); rw [e1, e2] at h; exact h)) (w := W) (vs := [.agg #[.int .i64 a, .int .i64 b, .int .i64 k, .int .i64 o, s4, .int .i64 n], .int .u32 x, .int .u32 y]) (.cons _ _ [] _ _ [] (.agg _ [_, _, _, _, _, _] [] (.cons _ _ [] _ _ [] (.int _ _) (.cons _ _ [] _ _ [] (.int _ _) (.cons _ _ [] _ _ [] (.int _ _) (.cons _ _ [] _ _ [] (.int _ _) (.cons _ _ [] _ _ [] hrs (.cons _ _ [] _ _ [] (.int _ _) .nil))))))) (.cons _ _ [] _ _ [] (.int _ _) (.cons _ _ [] _ _ [] (.int _ _) (.nil))))).mono fun e W' ⟨he, bel⟩ => ?_
  subst he
  exact ⟨_, rfl, _, _, _, [], _, [], hW', trodAll_mk1 (shut_bool Try.underlying4 _), (trodAll_cons_mk (Below.trod laidOut (by kernel_rfl) (of_decide_eq_true (by kernel_rfl)) k0 bel lt0) (trodAll_cons_mk (Below.trod laidOut (by kernel_rfl) (of_decide_eq_true (by kernel_rfl)) k1 bel lt1) (trodAll_cons_mk (Below.trod laidOut (by kernel_rfl) (of_decide_eq_true (by kernel_rfl)) k2 bel lt2) trodAll_mk0))), rfl, bel.frame _, fun h => by cases h⟩

theorem over : Rows.groupOrderOfAdditionsRow.holds Try.pinned (OpenSpec.ofChange Rows.groupOrderOfAdditionsSpec) :=
  OpenClaim.holds_of_wide 7 Try.f7 rfl rfl rfl rfl rfl rfl rfl ⟨rfl, rfl, rfl, rfl, rfl⟩ rfl rfl rfl rfl rfl (by kernel_rfl) Try.func7 (by kernel_rfl)
    (of_decide_eq_true (by kernel_rfl)) (by unfold Func.isWrapper; first | (rw [if_pos (by decide +kernel)]; kernel_rfl) | (rw [if_neg (by decide +kernel)]; exact ⟨rfl, rfl⟩))
    (fun os started H enc _ => lifted os started H enc)

theorem proved : Rows.GroupOrderOfAdditionsSaid := over
#print axioms proved
end Go.Proofs.Ythlhjepijodemaa.groupOrderOfAdditionsDone
