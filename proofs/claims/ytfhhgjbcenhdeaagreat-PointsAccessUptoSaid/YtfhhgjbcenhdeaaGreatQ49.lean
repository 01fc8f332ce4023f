/- Parts of the proof. -/
import Derived.Test.YtfhhgjbcenhdeaaGreatQ48
set_option linter.unusedSimpArgs false
set_option linter.unusedVariables false
namespace Go.Ge
open Go Go.FM Go.Gv Go.Proofs
set_option maxRecDepth 100000
set_option maxHeartbeats 40000000
theorem d1g {p : Pg} (hb : PgB p) {x : Pts} (hx : PtB 2000000 x) (a b : Int) : PC Tryz.prog Gl 19 [.agg [.list 4 (fns p.funcs), .list 2 (gbs p.globals), .list 1 (lays p.layouts), .int .i64 p.main], .agg [.list 2 (sits x.sites), .list 1 (lls x.regs), .list 1 (lays x.cells)], .agg [.int .i64 a, .int .i64 b]] (.list 1 (ints (accP p x (a, b)))) := by
 by_cases h1 : a < 0
 . rw [d6j h1]; exact arN1 hb hx h1
 obtain ⟨f, rfl⟩ : ∃ f : Nat, a = (f : Int) := ⟨a.toNat, by omega⟩
 by_cases h2 : p.funcs.length <= f
 . rw [d6i h2]; exact arN2 hb hx h2
 have hf : f < p.funcs.length := by omega
 by_cases h3 : b < 0
 . rw [d6l h3]; exact arN3 hb hx hf h3
 obtain ⟨pc, rfl⟩ : ∃ k : Nat, b = (k : Int) := ⟨b.toNat, by omega⟩
 by_cases h4 : (p.funcs[f]).code.length <= pc
 . rw [d6k hf h4]; exact arN4 hb hx hf h4
 have hc : pc < (p.funcs[f]).code.length := by omega
 cases hs : a2y p x with
 | false => rw [c5i hs]; exact arN5 hb hx _ _ hs
 | true =>
   by_cases qa : ((p.funcs[f]).code[pc]).op = 34 \/ ((p.funcs[f]).code[pc]).op = 36 \/ ((p.funcs[f]).code[pc]).op = 39 \/ ((p.funcs[f]).code[pc]).op = 40 \/ ((p.funcs[f]).code[pc]).op = 41 \/ ((p.funcs[f]).code[pc]).op = 42 \/ ((p.funcs[f]).code[pc]).op = 43 \/ ((p.funcs[f]).code[pc]).op = 44 \/ ((p.funcs[f]).code[pc]).op = 45 \/ ((p.funcs[f]).code[pc]).op = 46 \/ ((p.funcs[f]).code[pc]).op = 47 \/ ((p.funcs[f]).code[pc]).op = 49 \/ ((p.funcs[f]).code[pc]).op = 51
   . exact arA hb hx hf hc hs qa
   by_cases qb : ((p.funcs[f]).code[pc]).op = 33 \/ ((p.funcs[f]).code[pc]).op = 35 \/ ((p.funcs[f]).code[pc]).op = 37 \/ ((p.funcs[f]).code[pc]).op = 38 \/ ((p.funcs[f]).code[pc]).op = 48
   . exact arB hb hx hf hc hs qb
   by_cases q5 : ((p.funcs[f]).code[pc]).op = 50
   . exact arS hb hx hf hc hs q5
   exact arO hb hx hf hc hs (by omega)
end Go.Ge
