/- Parts of the proof. -/
import Derived.Test.YtfhhgjbcenhdeaaGreatQ28
import Derived.Test.YtfhhgjbcenhdeaaGreatQ35
import Derived.Test.YtfhhgjbcenhdeaaGreatQ36
import Derived.Test.YtfhhgjbcenhdeaaGreatQ27
import Derived.Test.YtfhhgjbcenhdeaaGreatQ38
import Derived.Test.YtfhhgjbcenhdeaaGreatQ39
import Derived.Test.YtfhhgjbcenhdeaaGreatQ26
import Derived.Test.YtfhhgjbcenhdeaaGreatQ30
import Derived.Test.YtfhhgjbcenhdeaaGreatQ24
set_option linter.unusedSimpArgs false
set_option linter.unusedVariables false
namespace Go.Ge
open Go Go.FM Go.Gv Go.Proofs
set_option maxRecDepth 100000
set_option maxHeartbeats 40000000
theorem e4u {p : Pg} (hp : VOk p) {Y : Pts} (hy : Gv.Form p Y) {B : Heap} (hB : BsP p 2 B) {i j : Nat} (hi : i < p.funcs.length) (hj : j < (p.funcs[i]).code.length) : FC Tryz.prog Gl 56 [.agg [.list 4 (fns p.funcs), .list 2 (gbs p.globals), .list 1 (lays p.layouts), .int .i64 p.main], .agg [.list 2 (sits (a0i p)), .sl [91] 1 0 p.funcs.length, .sl [93] 1 0 (a0i p).length], .int .i64 (i : Int), .int .i64 (j : Int)] (HP [] B (PF Y)) (.tup []) (HP [] B (PF (a3s p i j p.funcs[i].code[j] Y))) := by
 by_cases q18 : p.funcs[i].code[j].op = 18
 . exact a_18 hp hy hB hi hj q18
 by_cases q21 : p.funcs[i].code[j].op = 21
 . exact e8s hp hy hB hi hj (.inl q21)
 by_cases q22 : p.funcs[i].code[j].op = 22
 . exact e8s hp hy hB hi hj (.inr (.inl q22))
 by_cases q23 : p.funcs[i].code[j].op = 23
 . exact e8s hp hy hB hi hj (.inr (.inr q23))
 by_cases q24 : p.funcs[i].code[j].op = 24
 . exact a_24 hp hy hB hi hj q24
 by_cases q3 : p.funcs[i].code[j].op = 3
 . exact a_f3 hp hy hB hi hj (.inl q3)
 by_cases q19 : p.funcs[i].code[j].op = 19
 . exact a_f3 hp hy hB hi hj (.inr (.inl q19))
 by_cases q20 : p.funcs[i].code[j].op = 20
 . exact a_f3 hp hy hB hi hj (.inr (.inr q20))
 by_cases q25 : p.funcs[i].code[j].op = 25
 . exact a_25 hp hy hB hi hj q25
 by_cases q33 : p.funcs[i].code[j].op = 33
 . exact f6s hp hy hB hi hj (.inl q33)
 by_cases q35 : p.funcs[i].code[j].op = 35
 . exact f6s hp hy hB hi hj (.inr q35)
 by_cases q34 : p.funcs[i].code[j].op = 34
 . exact e8q hp hy hB hi hj (.inl q34)
 by_cases q36 : p.funcs[i].code[j].op = 36
 . exact e8q hp hy hB hi hj (.inr (.inl q36))
 by_cases q47 : p.funcs[i].code[j].op = 47
 . exact e8q hp hy hB hi hj (.inr (.inr q47))
 by_cases q38 : p.funcs[i].code[j].op = 38
 . exact a_38 hp hy hB hi hj q38
 by_cases q48 : p.funcs[i].code[j].op = 48
 . by_cases h0 : 0 <= p.funcs[i].code[j].a
   . exact g4j hp hy hB hi hj q48 h0
   . exact g4k hp hy hB hi hj q48 h0
 by_cases q51 : p.funcs[i].code[j].op = 51
 . by_cases h1 : p.funcs[i].code[j].b = 1
   . exact g4h hp hy hB hi hj q51 h1
   . by_cases h0 : 0 <= p.funcs[i].code[j].c
     . exact g4g hp hy hB hi hj q51 h1 h0
     . exact g4i hp hy hB hi hj q51 h1 h0
 by_cases q26 : p.funcs[i].code[j].op = 26
 . by_cases h0 : 0 <= p.funcs[i].code[j].a
   . exact g4l hp hy hB hi hj q26 h0
   . exact g4m hp hy hB hi hj q26 h0
 by_cases q28 : p.funcs[i].code[j].op = 28
 . exact f6t hp hy hB hi hj (.inl q28)
 by_cases q31 : p.funcs[i].code[j].op = 31
 . exact f6t hp hy hB hi hj (.inr q31)
 by_cases q27 : p.funcs[i].code[j].op = 27
 . exact e8r hp hy hB hi hj (.inl q27)
 by_cases q29 : p.funcs[i].code[j].op = 29
 . exact e8r hp hy hB hi hj (.inr (.inl q29))
 by_cases q32 : p.funcs[i].code[j].op = 32
 . exact e8r hp hy hB hi hj (.inr (.inr q32))
 exact e8p hp hy hB hi hj q18 q21 q22 q23 q24 q3 q19 q20 q25 q33 q35 q34 q36 q47 q38 q48 q51 q26 q28 q31 q27 q29 q32
theorem d2v {P : Program} {res : List ResultVar} {r : FV} {e : Exit} {s : Fs} (h : PEnd P res r e s) : PEnd P res r e s := h
theorem d5w {P : Program} {c : Cfg} {ops : Array Oper} {o : Oper} {rest : List Oper} {K : Fs -> Prop} {s : Fs} {f : FuncId} {b : Bool} {A : List FV} (h : b8k P c ops o rest K s f b A) : b8k P c ops o rest K s f b A := h
theorem d0x {p : Pg} (hp : VOk p) {x : Pts} (hx : Gv.Form p x) (hxB : PtB 2000000 x) : PC Tryz.prog Gl 34 [.agg [.list 4 (fns p.funcs), .list 2 (gbs p.globals), .list 1 (lays p.layouts), .int .i64 p.main], .agg [.list 2 (sits x.sites), .list 1 (lls x.regs), .list 1 (lays x.cells)]] (.agg [.list 2 (sits (a9x p x).sites), .list 1 (lls (a9x p x).regs), .list 1 (lays (a9x p x).cells)]) := by
 have hsv := a2f hp
 have hxn := hx.rn
 have hxc := hx.cn
 have hxs := hx.sites
 have hcopy := fun {B : Heap} (hB : BsC B) => d1j hxB hB
 simp only [hx.sites, hx.rn, hx.cn] at hcopy
 have hpr : a9x p x = b1l p x p.funcs.length := rfl
 refine a3d (res := [.cell 4 33]) 8 34 [] (fun d ix => 3 :: d :: ix) (fn := Tryz.f34) (by kernel_rfl) (by rfl) (by rfl) (by rfl) (by simp) (by decide) ?_
 repeat' first
  | ((with_reducible refine a1u ?_); refine a2n (σ := {f : Nat // f <= p.funcs.length}) (fun y => [(6, .int .i64 (y.1 : Int)), (7, .undef)]) [] (fun y => []) [] (fun y => []) (fun y => PF (b1l p x y.1)) (fun y => p.funcs.length - y.1) ⟨0, by simp⟩ (gk3 (j := 3) [] (bsPF 3 (by decide) _) ?_ ?_ ?_ ?_ ?_ ?_ ?_) ?_; (iterate 7 (focus (first | rfl | (simp [LPXB, *, SIMB, hdN, injB, a3h, a7r, a7q, a4i, a3u, a6n, c0o, c1o]; done)))); rintro ⟨f, hf⟩; simp only [lpS, LPXB]; (try dsimp only at hf); rcases a1t hf with hlt | ⟨hlt, he⟩; rotate_left; subst f; rotate_left; have hnf := hp.nf; have wf := wli hlt (by omega); have hcv := b9c hp hlt; have hY := b8u hp hx f hf; have hps := e5o hlt x; rotate_left; have hY := b8u hp hx p.funcs.length (Nat.le_refl _); rotate_left)
  | ((with_reducible refine a1u ?_); refine a2n (σ := {i : Nat // i <= (p.funcs[f]'hlt).code.length}) (fun y => [(7, .int .i64 (y.1 : Int))]) [] (fun y => []) [] (fun y => []) (fun y => PF (b3g p f (p.funcs[f]'hlt).code y.1 (b1l p x f))) (fun y => (p.funcs[f]'hlt).code.length - y.1) ⟨0, by simp⟩ (gk3 (j := 3) [] (bsPF 3 (by decide) _) ?_ ?_ ?_ ?_ ?_ ?_ ?_) ?_; (iterate 7 (focus (first | rfl | (simp [LPXB, *, SIMB, hdN, injB, a3h, a7r, a7q, a4i, a3u, a6n, c0o, c1o]; done)))); rintro ⟨i, hi⟩; simp only [lpS, LPXB]; (try dsimp only at hi); rcases a1t hi with hlk | ⟨hlk, he⟩; rotate_left; subst i; rotate_left; have wk := wli hlk (by omega); have hZ := d5r hp hY hlt i hi; have hcs := e8d (p := p) (i := f) hlk (b1l p x f))
  | ((with_reducible refine a1p ?_); refine a2a (⟨i + 1, by omega⟩) (gk3 (j := 3) [] (bsPF 3 (by decide) _) ?_ ?_ ?_ ?_ ?_ ?_ ?_) ?_; (iterate 7 (focus (first | rfl | (simp [LPXB, *, SIMB, hdN, injB, a3h, a7r, a7q, a4i, a3u, a6n, c0o, c1o]; done)))); (focus (dsimp only; omega)))
  | ((with_reducible refine a1p ?_); refine a2a (⟨f + 1, by omega⟩) (gk3 (j := 3) [] (bsPF 3 (by decide) _) ?_ ?_ ?_ ?_ ?_ ?_ ?_) ?_; (iterate 7 (focus (first | rfl | (simp [LPXB, *, SIMB, hdN, injB, a3h, a7r, a7q, a4i, a3u, a6n, c0o, c1o]; done)))); (focus (dsimp only; omega)))
  | ((with_reducible refine d5w ?_); refine a4t rfl (e4u hp hZ (BsP.call (bsP0 p 3 (by decide)) (by decide) hZ (by rfl) (by first | (simp [ninL, ninO, a3p, nins, nin, a0f, a0h, a0a, a1g, a0b, a1z, a6d, a4i, a3u, a7l, a3h, HPXB, *]; done))) hlt hlk) ?_)
  | ((with_reducible refine d5w ?_); refine a4t rfl (hcopy (BsC.of (by rfl) (by first | (simp [ninL, ninO, a3p, nins, nin, a0f, a0h, a0a, a1g, a0b, a1z, a6d, a4i, a3u, a7l, a3h, HPXB, *]; done)) (by rfl))) ?_)
  | ((with_reducible refine d2v ?_); with_reducible refine f0o (p.funcs.length + 10) (l := [.agg [.list 2 (sits (a0i p)), .sl [91] 1 0 p.funcs.length, .sl [93] 1 0 (a0i p).length]]) ?_ (c4u hY _ (Nat.le_refl _)) ?_)
  | ((with_reducible refine d2v ?_); with_reducible refine f0p (p.funcs.length + 10) (l := [.agg [.list 2 (sits (a0i p)), .sl [91] 1 0 p.funcs.length, .sl [93] 1 0 (a0i p).length]]) ?_ (c4u hY _ (Nat.le_refl _)) ?_)
  | with_reducible refine stp ?_
  | (with_reducible refine stpK ?_; intro K hK)
  | (with_reducible refine stpC ?_; intro T E hT hE)
  | (with_reducible refine stp2 ?_ ?_ <;> intro h)
  | with_reducible first | refine a0p rfl ?_ | refine a1r rfl (Nat.le_of_ble_eq_true rfl) a0r ?_ | refine a1r rfl (Nat.le_of_ble_eq_true rfl) (a0q (by simp [HPXB, a3h, ext, upd, *])) ?_ | refine a1s (by decide) (by kernel_rfl) ?_ | refine a0x (by decide) ?_
  | (with_reducible refine Kont.go hK ?_; clear hK K)
  | ((with_reducible first | refine KT.go hT ?_ | refine KT.go hE ?_); clear hT hE T E)
  | simp [*, -List.all_flatten, -List.all_eq_true, DEFB, LENB, a3h, a4i, a3u, a1i, a4c, a4e, a3n, a3b, a7l]
 all_goals first
  | (simp [asR, asRs, hpr]; done)
  | trace_state
end Go.Ge
