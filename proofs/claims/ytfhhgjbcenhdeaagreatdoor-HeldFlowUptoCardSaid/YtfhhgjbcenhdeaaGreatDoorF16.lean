/- Parts of the proof. -/
import Derived.Test.YtfhhgjbcenhdeaaGreatDoorF12
set_option linter.unusedSimpArgs false
set_option linter.unusedVariables false
namespace Go.Je
open Go Go.FM Go.Gv Go.Proofs
set_option maxRecDepth 100000
set_option maxHeartbeats 40000000
theorem e2x {p : Pg} (hp : VOk p) : ∀ i, i <= p.funcs.length -> (sitP p.funcs i).length <= 1 + i * 1000 := b9j fun x hx => (hp.regs hx).c1000
theorem a2t {p : Pg} (hp : VOk p) : (a0l p).length <= 64001 := by
 have := e2x hp p.funcs.length (nr_ _)
 have := hp.nf
 unfold a0l; omega
theorem f1c {p : Pg} (hp : VOk p) {i j : Nat} (hi : i < p.funcs.length) (hj : j <= p.funcs[i].code.length) : (sit2 p.funcs i j).length <= 70000 := by
 have h1 := d9d (B := 1000) (fun x hx => (hp.regs hx).c1000) hi hj
 have h2 := (hp.regs (gm_ hi)).c1000
 have := hp.nf
 omega
theorem e5v {p : Pg} (hp : VOk p) {i : Nat} (hi : i <= p.funcs.length) : (sitP p.funcs i).length <= 70000 := by
 have := e2x hp i hi
 have := hp.nf
 omega
theorem d6r {p : Pg} (hp : VOk p) {i : Nat} (hi : i < p.funcs.length) : p.funcs[i].code.length <= 1000 := (hp.regs (gm_ hi)).c1000
end Go.Je
namespace Go.Je
open Go Go.FM Go.Gv Go.Proofs
set_option maxRecDepth 100000
set_option maxHeartbeats 40000000
open Classical in
noncomputable def a4m (p : Pg) : Pts := ⟨a0l p, p.funcs.map (fun f => List.replicate f.regs.toNat []), List.replicate (a0l p).length []⟩
end Go.Je
namespace Go.Je
open Go Go.FM Go.Gv Go.Proofs
set_option maxRecDepth 100000
set_option maxHeartbeats 40000000
structure PtB (N : Nat) (x : Pts) : Prop where
 s : x.sites.length <= N
 r : x.regs.length <= N
 c : x.cells.length <= N
 rr : ∀ a ∈ x.regs, a.length <= N
 rs : ∀ a ∈ x.regs, ∀ s ∈ a, s.length <= N
 cs : ∀ s ∈ x.cells, s.length <= N
end Go.Je
