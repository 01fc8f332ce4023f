/- Parts of the proof. -/
import Derived.Test.YtfhhgjbcenhdeaaR28
import Derived.Test.YtfhhgjbcenhdeaaR35
import Derived.Test.YtfhhgjbcenhdeaaR36
import Derived.Test.YtfhhgjbcenhdeaaR27
import Derived.Test.YtfhhgjbcenhdeaaR38
import Derived.Test.YtfhhgjbcenhdeaaR39
import Derived.Test.YtfhhgjbcenhdeaaR26
import Derived.Test.YtfhhgjbcenhdeaaR30
import Derived.Test.YtfhhgjbcenhdeaaR24
set_option linter.unusedSimpArgs false
set_option linter.unusedVariables false
namespace Go.He
open Go Go.FM Go.Gv Go.Proofs
set_option maxRecDepth 100000
set_option maxHeartbeats 40000000
theorem e3i {p : Pg} (hp : VOk p) {Y : Pts} (hy : Gv.Form p Y) {B : Heap} (hB : BsP p 2 B) {i j : Nat} (hi : i < p.funcs.length) (hj : j < (p.funcs[i]).code.length) : FC Try.prog Gl 34 [.agg [.list 4 (fns p.funcs), .list 2 (gbs p.globals), .list 1 (lays p.layouts), .int .i64 p.main], .agg [.list 2 (sits (a0d p)), .sl [91] 1 0 p.funcs.length, .sl [93] 1 0 (a0d p).length], .int .i64 (i : Int), .int .i64 (j : Int)] (HP [] B (PF Y)) (.tup []) (HP [] B (PF (a3l p i j p.funcs[i].code[j] Y))) := by
 by_cases q18 : p.funcs[i].code[j].op = 18
 . exact a_18 hp hy hB hi hj q18
 by_cases q21 : p.funcs[i].code[j].op = 21
 . exact e7q hp hy hB hi hj (.inl q21)
 by_cases q22 : p.funcs[i].code[j].op = 22
 . exact e7q hp hy hB hi hj (.inr (.inl q22))
 by_cases q23 : p.funcs[i].code[j].op = 23
 . exact e7q hp hy hB hi hj (.inr (.inr q23))
 by_cases q24 : p.funcs[i].code[j].op = 24
 . exact a_24 hp hy hB hi hj q24
 by_cases q3 : p.funcs[i].code[j].op = 3
 . exact a_f3 hp hy hB hi hj (.inl q3)
 by_cases q19 : p.funcs[i].code[j].op = 19
 . exact a_f3 hp hy hB hi hj (.inr (.inl q19))
 by_cases q20 : p.funcs[i].code[j].op = 20
 . exact a_f3 hp hy hB hi hj (.inr (.inr q20))
 by_cases q25 : p.funcs[i].code[j].op = 25
 . exact a_25 hp hy hB hi hj q25
 by_cases q33 : p.funcs[i].code[j].op = 33
 . exact f5r hp hy hB hi hj (.inl q33)
 by_cases q35 : p.funcs[i].code[j].op = 35
 . exact f5r hp hy hB hi hj (.inr q35)
 by_cases q34 : p.funcs[i].code[j].op = 34
 . exact e7o hp hy hB hi hj (.inl q34)
 by_cases q36 : p.funcs[i].code[j].op = 36
 . exact e7o hp hy hB hi hj (.inr (.inl q36))
 by_cases q47 : p.funcs[i].code[j].op = 47
 . exact e7o hp hy hB hi hj (.inr (.inr q47))
 by_cases q38 : p.funcs[i].code[j].op = 38
 . exact a_38 hp hy hB hi hj q38
 by_cases q48 : p.funcs[i].code[j].op = 48
 . by_cases h0 : 0 <= p.funcs[i].code[j].a
   . exact g3s hp hy hB hi hj q48 h0
   . exact g3t hp hy hB hi hj q48 h0
 by_cases q51 : p.funcs[i].code[j].op = 51
 . by_cases h1 : p.funcs[i].code[j].b = 1
   . exact g3q hp hy hB hi hj q51 h1
   . by_cases h0 : 0 <= p.funcs[i].code[j].c
     . exact g3p hp hy hB hi hj q51 h1 h0
     . exact g3r hp hy hB hi hj q51 h1 h0
 by_cases q26 : p.funcs[i].code[j].op = 26
 . by_cases h0 : 0 <= p.funcs[i].code[j].a
   . exact g3u hp hy hB hi hj q26 h0
   . exact g3v hp hy hB hi hj q26 h0
 by_cases q28 : p.funcs[i].code[j].op = 28
 . exact f5s hp hy hB hi hj (.inl q28)
 by_cases q31 : p.funcs[i].code[j].op = 31
 . exact f5s hp hy hB hi hj (.inr q31)
 by_cases q27 : p.funcs[i].code[j].op = 27
 . exact e7p hp hy hB hi hj (.inl q27)
 by_cases q29 : p.funcs[i].code[j].op = 29
 . exact e7p hp hy hB hi hj (.inr (.inl q29))
 by_cases q32 : p.funcs[i].code[j].op = 32
 . exact e7p hp hy hB hi hj (.inr (.inr q32))
 exact e7n hp hy hB hi hj q18 q21 q22 q23 q24 q3 q19 q20 q25 q33 q35 q34 q36 q47 q38 q48 q51 q26 q28 q31 q27 q29 q32
theorem d2b {P : Program} {res : List ResultVar} {r : FV} {e : Exit} {s : Fs} (h : PEnd P res r e s) : PEnd P res r e s := h
theorem d4s {P : Program} {c : Cfg} {ops : Array Oper} {o : Oper} {rest : List Oper} {K : Fs -> Prop} {s : Fs} {f : FuncId} {b : Bool} {A : List FV} (h : b4z P c ops o rest K s f b A) : b4z P c ops o rest K s f b A := h
theorem d0i {p : Pg} (hp : VOk p) {x : Pts} (hx : Gv.Form p x) (hxB : PtB 2000000 x) : PC Try.prog Gl 22 [.agg [.list 4 (fns p.funcs), .list 2 (gbs p.globals), .list 1 (lays p.layouts), .int .i64 p.main], .agg [.list 2 (sits x.sites), .list 1 (lls x.regs), .list 1 (lays x.cells)]] (.agg [.list 2 (sits (a9r p x).sites), .list 1 (lls (a9r p x).regs), .list 1 (lays (a9r p x).cells)]) := by
 have hsv := a2b hp
 have hxn := hx.rn
 have hxc := hx.cn
 have hxs := hx.sites
 have hcopy := fun {B : Heap} (hB : BsC B) => d0u hxB hB
 simp only [hx.sites, hx.rn, hx.cn] at hcopy
 have hpr : a9r p x = b1e p x p.funcs.length := rfl
 refine a3w (res := [.cell 4 30]) 8 34 [] (fun d ix => 3 :: d :: ix) (fn := Try.f22) (by kernel_rfl) (by rfl) (by rfl) (by rfl) (by simp) (by decide) ?_
 repeat' first
  | ((with_reducible refine a1o ?_); refine a2h (σ := {f : Nat // f <= p.funcs.length}) (fun y => [(6, .int .i64 (y.1 : Int)), (7, .undef)]) [] (fun y => []) [] (fun y => []) (fun y => PF (b1e p x y.1)) (fun y => p.funcs.length - y.1) ⟨0, by simp⟩ (gk3 (j := 3) [] (bsPF 3 (by decide) _) ?_ ?_ ?_ ?_ ?_ ?_ ?_) ?_; (iterate 7 (focus (first | rfl | (simp [LPXB, *, SIMB, hdN, injB, a3a, a7n, a7m, a4b, a3o, a6g, c0b, c1f]; done)))); rintro ⟨f, hf⟩; simp only [lpS, LPXB]; (try dsimp only at hf); rcases a1l hf with hlt | ⟨hlt, he⟩; rotate_left; subst f; rotate_left; have hnf := hp.nf; have wf := wli hlt (by omega); have hcv := b8v hp hlt; have hY := b8o hp hx f hf; have hps := e4l hlt x; rotate_left; have hY := b8o hp hx p.funcs.length (Nat.le_refl _); rotate_left)
  | ((with_reducible refine a1o ?_); refine a2h (σ := {i : Nat // i <= (p.funcs[f]'hlt).code.length}) (fun y => [(7, .int .i64 (y.1 : Int))]) [] (fun y => []) [] (fun y => []) (fun y => PF (b3b p f (p.funcs[f]'hlt).code y.1 (b1e p x f))) (fun y => (p.funcs[f]'hlt).code.length - y.1) ⟨0, by simp⟩ (gk3 (j := 3) [] (bsPF 3 (by decide) _) ?_ ?_ ?_ ?_ ?_ ?_ ?_) ?_; (iterate 7 (focus (first | rfl | (simp [LPXB, *, SIMB, hdN, injB, a3a, a7n, a7m, a4b, a3o, a6g, c0b, c1f]; done)))); rintro ⟨i, hi⟩; simp only [lpS, LPXB]; (try dsimp only at hi); rcases a1l hi with hlk | ⟨hlk, he⟩; rotate_left; subst i; rotate_left; have wk := wli hlk (by omega); have hZ := d4m hp hY hlt i hi; have hcs := e7b (p := p) (i := f) hlk (b1e p x f))
  | ((with_reducible refine a1j ?_); refine a1w (⟨i + 1, by omega⟩) (gk3 (j := 3) [] (bsPF 3 (by decide) _) ?_ ?_ ?_ ?_ ?_ ?_ ?_) ?_; (iterate 7 (focus (first | rfl | (simp [LPXB, *, SIMB, hdN, injB, a3a, a7n, a7m, a4b, a3o, a6g, c0b, c1f]; done)))); (focus (dsimp only; omega)))
  | ((with_reducible refine a1j ?_); refine a1w (⟨f + 1, by omega⟩) (gk3 (j := 3) [] (bsPF 3 (by decide) _) ?_ ?_ ?_ ?_ ?_ ?_ ?_) ?_; (iterate 7 (focus (first | rfl | (simp [LPXB, *, SIMB, hdN, injB, a3a, a7n, a7m, a4b, a3o, a6g, c0b, c1f]; done)))); (focus (dsimp only; omega)))
  | ((with_reducible refine d4s ?_); refine a4z rfl (e3i hp hZ (BsP.call (bsP0 p 3 (by decide)) (by decide) hZ (by rfl) (by first | (simp [ninL, ninO, a3m, nins, nin, a0e, a0i, a0a, a1d, a0c, a2c, a5u, a4b, a3o, a7f, a3a, HPXB, *]; done))) hlt hlk) ?_)
  | ((with_reducible refine d4s ?_); refine a4z rfl (hcopy (BsC.of (by rfl) (by first | (simp [ninL, ninO, a3m, nins, nin, a0e, a0i, a0a, a1d, a0c, a2c, a5u, a4b, a3o, a7f, a3a, HPXB, *]; done)) (by rfl))) ?_)
  | ((with_reducible refine d2b ?_); with_reducible refine e9v (p.funcs.length + 10) (l := [.agg [.list 2 (sits (a0d p)), .sl [91] 1 0 p.funcs.length, .sl [93] 1 0 (a0d p).length]]) ?_ (c4g hY _ (Nat.le_refl _)) ?_)
  | ((with_reducible refine d2b ?_); with_reducible refine e9w (p.funcs.length + 10) (l := [.agg [.list 2 (sits (a0d p)), .sl [91] 1 0 p.funcs.length, .sl [93] 1 0 (a0d p).length]]) ?_ (c4g hY _ (Nat.le_refl _)) ?_)
  | with_reducible refine stp ?_
  | (with_reducible refine stpK ?_; intro K hK)
  | (with_reducible refine stpC ?_; intro T E hT hE)
  | (with_reducible refine stp2 ?_ ?_ <;> intro h)
  | with_reducible first | refine a0q rfl ?_ | refine a0t rfl (Nat.le_of_ble_eq_true rfl) a0s ?_ | refine a0t rfl (Nat.le_of_ble_eq_true rfl) (a0r (by simp [HPXB, a3a, ext, upd, *])) ?_ | refine a1v (by decide) (by kernel_rfl) ?_ | refine a0x (by decide) ?_
  | (with_reducible refine Kont.go hK ?_; clear hK K)
  | ((with_reducible first | refine KT.go hT ?_ | refine KT.go hE ?_); clear hT hE T E)
  | simp [*, -List.all_flatten, -List.all_eq_true, DEFB, LENB, a3a, a4b, a3o, a1a, a3y, a3z, a3f, a2u, a7f]
 all_goals first
  | (simp [asR, asRs, hpr]; done)
  | trace_state
end Go.He
