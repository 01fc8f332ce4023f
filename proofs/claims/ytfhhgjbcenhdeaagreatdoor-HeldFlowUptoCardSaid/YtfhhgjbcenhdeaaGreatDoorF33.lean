/- Parts of the proof. -/
import Derived.Test.YtfhhgjbcenhdeaaGreatDoorF19
set_option linter.unusedSimpArgs false
set_option linter.unusedVariables false
namespace Go.Je
open Go Go.FM Go.Gv Go.Proofs
set_option maxRecDepth 100000
set_option maxHeartbeats 40000000
theorem b5k {nm : ByteArray} {pa rg : Int} {c : List Ins} (hc : CodeOk c) {i : Nat} (hi : i < c.length) : PC Tryz.prog Gl 19 [.agg [.str nm, .int .i64 pa, .int .i64 rg, .list 5 (inss c)], .int .i64 i] (.list 1 (ints (nx c i))) := by
 have hn := c3y hi
 have h1000 := hc.n1000
 have wi : IntKind.wrap .i64 ((i : Int) + 1) = (i : Int) + 1 := by rw [IntKind.wrap_i64]; omega
 have hb := fun e => (hc.sel i hi e).1
 have wb : c[i].op = 50 -> IntKind.wrap .i64 ((i : Int) + 1 + c[i].b) = (i : Int) + 1 + c[i].b := fun e => by
  have := hb e
  rw [IntKind.wrap_i64]; omega
 have i0 : ¬ (i : Int) < 0 := by omega
 have i1 : ¬ (c.length : Int) <= (i : Int) := by omega
 refine a3s (res := [.tmp 4]) 7 56 [22] (fun d ix => 0 :: d :: ix) (fn := Tryz.f19) (by kernel_rfl) (by rfl) (by rfl) (by rfl) (by simp) (by decide) ?_
 repeat' first
  | with_reducible first | refine a2j (id := 13) 7 a0y (by kernel_rfl) fun K hK => ?_ | refine stp ?_ | refine stpK ?_; intro K hK | refine stpC ?_; intro T E hT hE | refine stp2 ?_ ?_ <;> intro h | refine a0g rfl ?_ | refine a1e (c3m _) (by simp [nls, nl, *, NLXB]) ?_ | refine hpc (c3m _) (by simp [nls, nl, *, NLXB]) ?_ | refine a1e (c5y _ _ (by simp)) (by simp [nls, nl, *, NLXB]) ?_ | refine hpc (c5y _ _ (by simp)) (by simp [nls, nl, *, NLXB]) ?_ | refine a0j rfl (lbR rfl) a0i ?_ | refine a0j rfl (lbR rfl) (a0h (by simp [HPXB, ext, upd, *])) ?_ | refine a1g (by decide) (by kernel_rfl) ?_ | refine a0o (by decide) ?_ | refine Kont.go hK ?_; clear hK K | refine KT.go hT ?_; clear hT hE T E | refine KT.go hE ?_; clear hT hE T E
  | simp [*, -List.all_flatten, -List.all_eq_true, DEFB, LENB, asR, a1w, Ins.row, a2r]
end Go.Je
