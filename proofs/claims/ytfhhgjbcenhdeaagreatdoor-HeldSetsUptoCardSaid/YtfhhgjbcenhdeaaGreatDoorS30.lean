/- Part. -/
import Derived.Test.YtfhhgjbcenhdeaaGreatDoorS21
import Derived.Test.YtfhhgjbcenhdeaaGreatDoorS23
import Derived.Test.YtfhhgjbcenhdeaaGreatDoorS25
import Derived.Test.YtfhhgjbcenhdeaaGreatDoorS22
import Derived.Test.YtfhhgjbcenhdeaaGreatDoorS20
import Derived.Test.YtfhhgjbcenhdeaaGreatDoorS40
set_option linter.all false
set_option maxRecDepth 100000
set_option maxHeartbeats 0
namespace Go.Je
open Go Go.FM Go.Gv Go.Proofs
theorem f2n {p : Pg} (hp : VOk p) {Y : Pts} (hy : Gv.Form p Y) {B : Heap} (hB : BsP p 2 B) {i j : Nat} (hi : i < p.fu.length) (hj : j < (p.fu[i]).code.length) : FC Tp Gl 111 [PA p, .agg [.list 2 (sits (a0a p)), .sl [91] 1 0 p.fu.length, .sl [93] 1 0 (a0a p).length], .int .i64 (i : Int), .int .i64 (j : Int)] (HP [] B (PF Y)) (.tup []) (HP [] B (PF (a1e p i j p.fu[i].code[j] Y))) := by
 by_cases q18 : p.fu[i].code[j].op = 18
 . exact a_18 hp hy hB hi hj q18
 by_cases q21 : p.fu[i].code[j].op = 21
 . exact f8d hp hy hB hi hj (.inl q21)
 by_cases q22 : p.fu[i].code[j].op = 22
 . exact f8d hp hy hB hi hj (.inr (.inl q22))
 by_cases q23 : p.fu[i].code[j].op = 23
 . exact f8d hp hy hB hi hj (.inr (.inr q23))
 by_cases q24 : p.fu[i].code[j].op = 24
 . exact a_24 hp hy hB hi hj q24
 by_cases q3 : p.fu[i].code[j].op = 3
 . exact a_f3 hp hy hB hi hj (.inl q3)
 by_cases q19 : p.fu[i].code[j].op = 19
 . exact a_f3 hp hy hB hi hj (.inr (.inl q19))
 by_cases q20 : p.fu[i].code[j].op = 20
 . exact a_f3 hp hy hB hi hj (.inr (.inr q20))
 by_cases q25 : p.fu[i].code[j].op = 25
 . exact a_25 hp hy hB hi hj q25
 by_cases q33 : p.fu[i].code[j].op = 33
 . exact g4w hp hy hB hi hj (.inl q33)
 by_cases q35 : p.fu[i].code[j].op = 35
 . exact g4w hp hy hB hi hj (.inr q35)
 by_cases q34 : p.fu[i].code[j].op = 34
 . exact f8b hp hy hB hi hj (.inl q34)
 by_cases q36 : p.fu[i].code[j].op = 36
 . exact f8b hp hy hB hi hj (.inr (.inl q36))
 by_cases q47 : p.fu[i].code[j].op = 47
 . exact f8b hp hy hB hi hj (.inr (.inr q47))
 by_cases q38 : p.fu[i].code[j].op = 38
 . exact a_38 hp hy hB hi hj q38
 by_cases q48 : p.fu[i].code[j].op = 48
 . by_cases h0 : 0 <= p.fu[i].code[j].a
   . exact h0h hp hy hB hi hj q48 h0
   . exact h0i hp hy hB hi hj q48 h0
 by_cases q51 : p.fu[i].code[j].op = 51
 . by_cases h1 : p.fu[i].code[j].b = 1
   . exact h0f hp hy hB hi hj q51 h1
   . by_cases h0 : 0 <= p.fu[i].code[j].c
     . exact h0e hp hy hB hi hj q51 h1 h0
     . exact h0g hp hy hB hi hj q51 h1 h0
 by_cases q26 : p.fu[i].code[j].op = 26
 . by_cases h0 : 0 <= p.fu[i].code[j].a
   . exact h0j hp hy hB hi hj q26 h0
   . exact h0k hp hy hB hi hj q26 h0
 by_cases q28 : p.fu[i].code[j].op = 28
 . exact g4x hp hy hB hi hj (.inl q28)
 by_cases q31 : p.fu[i].code[j].op = 31
 . exact g4x hp hy hB hi hj (.inr q31)
 by_cases q27 : p.fu[i].code[j].op = 27
 . exact f8c hp hy hB hi hj (.inl q27)
 by_cases q29 : p.fu[i].code[j].op = 29
 . exact f8c hp hy hB hi hj (.inr (.inl q29))
 by_cases q32 : p.fu[i].code[j].op = 32
 . exact f8c hp hy hB hi hj (.inr (.inr q32))
 exact f8a hp hy hB hi hj q18 q21 q22 q23 q24 q3 q19 q20 q25 q33 q35 q34 q36 q47 q38 q48 q51 q26 q28 q31 q27 q29 q32
theorem d7e {P : Program} {res : List ResultVar} {r : FV} {e : Exit} {s : Fs} (h : PEnd P res r e s) : PEnd P res r e s := h
theorem e1e {P : Program} {c : Cfg} {ops : Array Oper} {o : Oper} {rest : List Oper} {K : Fs -> Prop} {s : Fs} {f : FuncId} {b : Bool} {A : List FV} (h : a9b P c ops o rest K s f b A) : a9b P c ops o rest K s f b A := h
theorem f9j {p : Pg} (hp : VOk p) {x : Pts} (hx : Gv.Form p x) (hxB : PtB 2000000 x) : Pq 63 [PA p, .agg [.list 2 (sits x.sites), .list 1 (lls x.regs), .list 1 (lays x.cells)]] (.agg [.list 2 (sits (a8w p x).sites), .list 1 (lls (a8w p x).regs), .list 1 (lays (a8w p x).cells)]) := by
 have hsv := a0h hp
 have hxn := hx.rn
 have hxc := hx.cn
 have hxs := hx.sites
 have hcopy := fun {B : Heap} (hB : BsC B) => f2z hxB hB
 simp only [hx.sites, hx.rn, hx.cn] at hcopy
 have hpr : a8w p x = a9l p x p.fu.length := rfl
 refine yq Tryz.f63 [.cell 4 49] 8 34 [] 3 ?_
 repeat' first
  | (refine yi ?_; refine a0e (σ := {f : Nat // f <= p.fu.length}) (fun y => [(6, .int .i64 (y.1 : Int)), (7, .undef)]) [] (fun y => []) [] (fun y => []) (fun y => PF (a9l p x y.1)) (fun y => p.fu.length - y.1) ⟨0, by simp⟩ z32 ?_; rintro ⟨f, hf⟩; simp only [lpS, LPXB]; (try dsimp only at hf); rcases a0c hf with hlt | ⟨hlt, he⟩; rotate_left; subst f; rotate_left; have hnf := hp.nf; have wf := wli hlt ya; have hcv := b9n hp hlt; have hY := b9a hp hx f hf; have hps := f4f hlt x; rotate_left; have hY := b9a hp hx p.fu.length (A5s _); rotate_left)
  | (refine yi ?_; refine a0e (σ := {i : Nat // i <= (p.fu[f]'hlt).code.length}) (fun y => [(7, .int .i64 (y.1 : Int))]) [] (fun y => []) [] (fun y => []) (fun y => PF (b1r p f (p.fu[f]'hlt).code y.1 (a9l p x f))) (fun y => (p.fu[f]'hlt).code.length - y.1) ⟨0, by simp⟩ z32 ?_; rintro ⟨i, hi⟩; simp only [lpS, LPXB]; (try dsimp only at hi); rcases cl2 hi ya with ⟨hlk, wk⟩ | ⟨hlk, rfl⟩; have hZ := e0x hp hY hlt i hi; have hcs := f6s (p := p) (i := f) hlk (a9l p x f))
  | (refine ye ?_; refine a0b (⟨i + 1, by omega⟩) z32 yf)
  | (refine ye ?_; refine a0b (⟨f + 1, by omega⟩) z32 yf)
  | ((with_reducible refine e1e ?_); refine a3d rfl (f2n hp hZ (BsP.call (bsP0 p 3 yb) yb hZ yn z4d) hlt hlk) ?_)
  | ((with_reducible refine e1e ?_); refine a3d rfl (hcopy (BsC.of yn z4d yn)) ?_)
  | ((with_reducible refine d7e ?_); with_reducible refine g1e (p.fu.length + 10) (l := [.agg [.list 2 (sits (a0a p)), .sl [91] 1 0 p.fu.length, .sl [93] 1 0 (a0a p).length]]) ?_ (c6i hY _ (A5s _)) ?_)
  | ((with_reducible refine d7e ?_); with_reducible refine d7d (p.fu.length + 10) (l := [.agg [.list 2 (sits (a0a p)), .sl [91] 1 0 p.fu.length, .sl [93] 1 0 (a0a p).length]]) ?_ (c6i hY _ (A5s _)) ?_)
  | refine zu ?_
  | (refine stpK ?_; intro K hK)
  | (refine stpC ?_; intro T E hT hE)
  | (refine stp2 ?_ ?_ <;> intro h)
  | (refine yg ?_; clear hK K)
  | (refine yh ?_; clear hT hE T E)
  | simp [*, -List.all_flatten, -List.all_eq_true, zo, a0p, c7j]
 all_goals first
  | (simp [asR, asRs, hpr]; done)
end Go.Je
