/- Parts of the proof. -/
import Derived.Test.YtfhhgjbcenhdeaaGreatDoorF41
import Derived.Test.YtfhhgjbcenhdeaaGreatDoorF40
set_option linter.unusedSimpArgs false
set_option linter.unusedVariables false
namespace Go.Je
open Go Go.FM Go.Gv Go.Proofs
set_option maxRecDepth 100000
set_option maxHeartbeats 40000000
theorem d1t {p : Pg} (hv : a2c p = true) {f : Nat} {nm : ByteArray} {pa rg : Int} {c : List Ins} (hF : FOk p f nm pa rg c) {i : Nat} (hi : i < c.length) (hlk : lkO c[i].op = false) : PC Tryz.prog Gl 20 [.agg [.list 4 (fns p.funcs), .list 2 (gbs p.globals), .list 1 (lays p.layouts), .int .i64 p.main], .int .i64 f, .int .i64 i] (.int .i64 (-1)) := by
 have he := hF.e
 have hf := hF.hf
 have hil : (i : Int) < (c.length : Int) := by omega
 have hfl : f < (fns p.funcs).length := by rw [a1c]; exact hf
 simp only [lkO, Bool.or_eq_false_iff, decide_eq_false_iff_not] at hlk
 obtain ⟨hk1, hk2⟩ := hlk
 refine a3s (res := [.tmp 6]) 13 104 [] (fun d ix => 0 :: d :: ix) (fn := Tryz.f20) (by kernel_rfl) (by rfl) (by rfl) (by rfl) (by simp) (by decide) ?_
 repeat' first
  | with_reducible first | refine a2j (id := 17) 7 a0y (by kernel_rfl) fun K hK => ?_ | refine a2j (id := 15) 24 a0y (by kernel_rfl) fun K hK => ?_ | refine stp ?_ | refine stpK ?_; intro K hK | refine stpC ?_; intro T E hT hE | refine stp2 ?_ ?_ <;> intro h | refine a0g rfl ?_ | refine a0j rfl (lbR rfl) a0i ?_ | refine a0j rfl (lbR rfl) (a0h (by simp [HPXB, ext, upd, *])) ?_ | refine a1g (by decide) (by kernel_rfl) ?_ | refine a0o (by decide) ?_ | refine Kont.go hK ?_; clear hK K | refine KT.go hT ?_; clear hT hE T E | refine KT.go hE ?_; clear hT hE T E
  | simp [*, -List.all_flatten, -List.all_eq_true, DEFB, LENB, asR, a1w, Ins.row, FnD.row]
theorem d8s {p : Pg} (hv : a2c p = true) {f : Nat} {nm : ByteArray} {pa rg : Int} {c : List Ins} (hF : FOk p f nm pa rg c) {i : Nat} (hi : i < c.length) : PC Tryz.prog Gl 20 [.agg [.list 4 (fns p.funcs), .list 2 (gbs p.globals), .list 1 (lays p.layouts), .int .i64 p.main], .int .i64 f, .int .i64 i] (.int .i64 (usC c i)) := by
 cases hlk : lkO c[i].op with
 | false =>
   have := d1t hv hF hi hlk
   rwa [show usC c i = -1 by rw [c5m hi, if_neg (by rw [hlk]; simp)]]
 | true =>
   simp only [lkO, Bool.or_eq_true, dE_] at hlk
   rcases hlk with h | h
   . exact c3o hv hF hi h
   . exact c3n hv hF hi h
end Go.Je
