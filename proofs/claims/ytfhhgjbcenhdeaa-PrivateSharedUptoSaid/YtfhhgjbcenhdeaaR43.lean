/- Parts of the proof. -/
import Derived.Test.YtfhhgjbcenhdeaaR23
import Derived.Test.YtfhhgjbcenhdeaaR42
set_option linter.unusedSimpArgs false
set_option linter.unusedVariables false
namespace Go.He
open Go Go.FM Go.Gv Go.Proofs
set_option maxRecDepth 100000
set_option maxHeartbeats 40000000
noncomputable def shP (p : Pg) (x : Pts) : List Bool := if a3e p x = true then rchL p x else List.replicate x.sites.length true
theorem a9x {p : Pg} {x : Pts} (h : a3e p x = true) : Gv.Form p x := b1o (by
 simp only [a3e, Bool.and_eq_true] at h
 exact h.2.1)
theorem a8y {p : Pg} {x : Pts} (h : a3e p x = true) : a2q p = true := by
 simp only [a3e, Bool.and_eq_true] at h
 exact h.1
theorem b2x (p : Pg) (x : Pts) : (shP p x).length = x.sites.length := by
 unfold shP
 split
 . rename_i h
   rw [b0e, (a9x h).sites]
 . simp
theorem b3k {p : Pg} (hb : PgB p) {x : Pts} (hx : PtB 2000000 x) : PC Try.prog Gl 11 [.agg [.list 4 (fns p.funcs), .list 2 (gbs p.globals), .list 1 (lays p.layouts), .int .i64 p.main], .agg [.list 2 (sits x.sites), .list 1 (lls x.regs), .list 1 (lays x.cells)]] (.list 1 (a3t (shP p x))) := by
 have hS := e3j hb hx
 unfold shP
 cases h : a3e p x with
 | true =>
   rw [h] at hS
   exact d0o hx hS (vOk (a8y h)) (a9x h)
 | false =>
   rw [h] at hS
   exact d0p hx hS
theorem d0t {p : Pg} (hb : PgB p) {x : Pts} (hx : PtB 2000000 x) : PC Try.prog Gl 12 [.agg [.list 4 (fns p.funcs), .list 2 (gbs p.globals), .list 1 (lays p.layouts), .int .i64 p.main], .agg [.list 2 (sits x.sites), .list 1 (lls x.regs), .list 1 (lays x.cells)]] (.list 1 (a3t (shP p x))) := by
 have hS := c5o hb hx
 unfold shP
 cases h : a3e p x with
 | true =>
   rw [h] at hS
   exact c8s hx hS (vOk (a8y h)) (a9x h)
 | false =>
   rw [h] at hS
   exact c8t hx hS
def c6s (x : Pts) : Bool := decide (60 < x.sites.length) || (decide (64 < x.regs.length) || decide (60 < x.cells.length))
def c2l (p : Pg) : Bool := decide (150 < grN p p.funcs.length)
theorem c5l {x : Pts} (hx : PtB 2000000 x) : PC Try.prog Gl 8 [.agg [.list 2 (sits x.sites), .list 1 (lls x.regs), .list 1 (lays x.cells)]] (.bool (c6s x)) := by
 have e1 : (60 : Int) < (x.sites.length : Int) ↔ 60 < x.sites.length := by omega
 have e2 : (64 : Int) < (x.regs.length : Int) ↔ 64 < x.regs.length := by omega
 have e3 : (60 : Int) < (x.cells.length : Int) ↔ 60 < x.cells.length := by omega
 by_cases d1 : 60 < x.sites.length
 all_goals by_cases d2 : 64 < x.regs.length
 all_goals by_cases d3 : 60 < x.cells.length
 all_goals
  refine a3w (res := [.tmp 2]) 3 19 [] (fun d ix => 0 :: d :: ix) (fn := Try.f8) (by kernel_rfl) (by rfl) (by rfl) (by rfl) (by simp) (by decide) ?_
  repeat' first
   | with_reducible refine stp ?_
   | (with_reducible refine stpK ?_; intro K hK)
   | (with_reducible refine stpC ?_; intro T E hT hE)
   | (with_reducible refine stp2 ?_ ?_ <;> intro h)
   | with_reducible first | refine a0q rfl ?_ | refine a0t rfl (Nat.le_of_ble_eq_true rfl) a0s ?_ | refine a0t rfl (Nat.le_of_ble_eq_true rfl) (a0r (by simp [HPXB, ext, upd, *])) ?_ | refine a1v (by decide) (by kernel_rfl) ?_ | refine a0x (by decide) ?_
   | (with_reducible refine Kont.go hK ?_; clear hK K)
   | ((with_reducible first | refine KT.go hT ?_ | refine KT.go hE ?_); clear hT hE T E)
   | simp [*, -List.all_flatten, -List.all_eq_true, DEFB, LENB, asR, c6s]
theorem b9j (p : Pg) (hf : p.funcs.length <= 2000000) (hfc : ∀ x ∈ p.funcs, x.code.length <= 2000000) : PC Try.prog Gl 7 [.agg [.list 4 (fns p.funcs), .list 2 (gbs p.globals), .list 1 (lays p.layouts), .int .i64 p.main]] (.bool (c2l p)) := by
 have hg0 : IntKind.wrap .i64 ((p.globals.length : Int) + (p.layouts.length : Int)) = grN p 0 := rfl
 refine a3w (res := [.tmp 2]) 5 40 [] (fun d ix => 0 :: d :: ix) (fn := Try.f7) (by kernel_rfl) (by rfl) (by rfl) (by rfl) (by simp) (by decide) ?_
 repeat' first
  | ((with_reducible refine a1o ?_); refine a2h (σ := {i : Nat // i <= p.funcs.length}) (fun y => [(3, .int .i64 (grN p y.1)), (4, .int .i64 (y.1 : Int))]) [] (fun y => []) [] (fun y => []) (fun y => noH) (fun y => p.funcs.length - y.1) ⟨0, by simp⟩ (gk3 (j := 0) [] (Bs.pc _) ?_ ?_ ?_ ?_ ?_ ?_ ?_) ?_; (iterate 7 (focus (first | rfl | (simp [LPXB, *, SIMB, hdN, injB]; done)))); rintro ⟨i, hi⟩; simp only [lpS, LPXB]; (try dsimp only at hi); rcases a1l hi with hlt | ⟨hlt, rfl⟩; have wi := wli hlt (Nat.le_trans hf (by decide)); have e := g1r hlt; have hfc' := hfc _ (List.getElem_mem hlt); have hwl := wlen (p.funcs[i]'hlt).code.length (by omega))
  | ((with_reducible refine a1j ?_); refine a1w (⟨i + 1, by omega⟩) (gk3 (j := 0) [] (Bs.pc _) ?_ ?_ ?_ ?_ ?_ ?_ ?_) ?_; (iterate 7 (focus (first | rfl | (simp [LPXB, *, SIMB, hdN, injB]; done)))); (focus (dsimp only; omega)))
  | with_reducible first | refine a0p (id := 5) 19 a0k (by kernel_rfl) fun K hK => ?_ | refine stp ?_
  | (with_reducible refine stpK ?_; intro K hK)
  | (with_reducible refine stpC ?_; intro T E hT hE)
  | (with_reducible refine stp2 ?_ ?_ <;> intro h)
  | with_reducible first | refine a0q rfl ?_ | refine a0t rfl (Nat.le_of_ble_eq_true rfl) a0s ?_ | refine a0t rfl (Nat.le_of_ble_eq_true rfl) (a0r (by simp [HPXB, ext, upd, *])) ?_ | refine a1v (by decide) (by kernel_rfl) ?_ | refine a0x (by decide) ?_
  | (with_reducible refine Kont.go hK ?_; clear hK K)
  | ((with_reducible first | refine KT.go hT ?_ | refine KT.go hE ?_); clear hT hE T E)
  | simp [*, -List.all_flatten, -List.all_eq_true, DEFB, LENB, c2l, g2c, asR]
end Go.He
