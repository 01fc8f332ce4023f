/- Parts of the proof. -/
import Derived.Test.YtfhhgjbcenhdeaaGreatQ45
import Derived.Test.YtfhhgjbcenhdeaaGreatQ47
set_option linter.unusedSimpArgs false
set_option linter.unusedVariables false
namespace Go.Ge
open Go Go.FM Go.Gv Go.Proofs
set_option maxRecDepth 100000
set_option maxHeartbeats 40000000
theorem c6c {p : Pg} (hb : PgB p) {x : Pts} (hx : PtB 2000000 x) (a b : Int) : PC Tryz.prog Gl 18 [.agg [.list 4 (fns p.funcs), .list 2 (gbs p.globals), .list 1 (lays p.layouts), .int .i64 p.main], .agg [.list 2 (sits x.sites), .list 1 (lls x.regs), .list 1 (lays x.cells)], .agg [.int .i64 a, .int .i64 b]] (.list 1 (ints (accP p x (a, b)))) := by
 by_cases h1 : a < 0
 . rw [d6j h1]; exact acN1 hb hx h1
 obtain ⟨f, rfl⟩ : ∃ f : Nat, a = (f : Int) := ⟨a.toNat, by omega⟩
 by_cases h2 : p.funcs.length <= f
 . rw [d6i h2]; exact acN2 hb hx h2
 have hf : f < p.funcs.length := by omega
 by_cases h3 : b < 0
 . rw [d6l h3]; exact acN3 hb hx hf h3
 obtain ⟨pc, rfl⟩ : ∃ k : Nat, b = (k : Int) := ⟨b.toNat, by omega⟩
 by_cases h4 : (p.funcs[f]).code.length <= pc
 . rw [d6k hf h4]; exact acN4 hb hx hf h4
 have hc : pc < (p.funcs[f]).code.length := by omega
 cases hs : a2y p x with
 | false => rw [c5i hs]; exact acN5 hb hx hf hc hs
 | true =>
   by_cases qa : ((p.funcs[f]).code[pc]).op = 34 \/ ((p.funcs[f]).code[pc]).op = 36 \/ ((p.funcs[f]).code[pc]).op = 39 \/ ((p.funcs[f]).code[pc]).op = 40 \/ ((p.funcs[f]).code[pc]).op = 41 \/ ((p.funcs[f]).code[pc]).op = 42 \/ ((p.funcs[f]).code[pc]).op = 43 \/ ((p.funcs[f]).code[pc]).op = 44 \/ ((p.funcs[f]).code[pc]).op = 45 \/ ((p.funcs[f]).code[pc]).op = 46 \/ ((p.funcs[f]).code[pc]).op = 47 \/ ((p.funcs[f]).code[pc]).op = 49 \/ ((p.funcs[f]).code[pc]).op = 51
   . exact acA hb hx hf hc hs qa
   by_cases qb : ((p.funcs[f]).code[pc]).op = 33 \/ ((p.funcs[f]).code[pc]).op = 35 \/ ((p.funcs[f]).code[pc]).op = 37 \/ ((p.funcs[f]).code[pc]).op = 38 \/ ((p.funcs[f]).code[pc]).op = 48
   . exact acB hb hx hf hc hs qb
   by_cases q5 : ((p.funcs[f]).code[pc]).op = 50
   . exact acS hb hx hf hc hs q5
   exact acO hb hx hf hc hs (by omega)
theorem d0y : PC Tryz.prog Gl 22 [] (.agg [.list 4 (fns p0.funcs), .list 2 (gbs p0.globals), .list 1 (lays p0.layouts), .int .i64 p0.main]) := c9i
theorem lfp0 : lfpP p0 = x0 := c7c c5p c7e
theorem e1x : a2y p0 x0 = true := by
 simp [a2y, c5p, b7r d4v, c7e.conds]
theorem d7g : a2y p0 ⟨[], [], []⟩ = false := by
 have h : ¬ Gv.Form p0 ⟨[], [], []⟩ := fun h => by
  have := h.sites
  rw [b0k] at this
  cases this
 simp [a2y, a7i h]
theorem acc0 : accP p0 x0 (0, 3) = [0] := by
 have h : accP p0 x0 (((0 : Nat) : Int), ((3 : Nat) : Int)) = _ := b0w e1x (by decide) (by decide)
 refine h.trans ?_
 have h1 : (p0.funcs[0]'(by decide)).code[3]'(by decide) = ⟨33, 2, 1, 0, 0⟩ := rfl
 rw [h1]
 simp [accI, accA, accB, rg, x0]
theorem pgb0 : PgB p0 := ⟨by decide, by decide, by decide, fun x hx => by simp [p0] at hx; subst hx; decide, fun x hx => by simp [p0] at hx; subst hx; decide⟩
theorem ptb0 : PtB 2000000 x0 := ⟨by decide, by decide, by decide, fun a ha => by simp [x0] at ha; subst ha; decide, fun a ha s hs => by simp [x0] at ha; subst ha; simp at hs; rcases hs with rfl | rfl | rfl <;> decide, fun s hs => by simp [x0] at hs; rcases hs with rfl | rfl <;> decide⟩
theorem ptbE : PtB 2000000 ⟨[], [], []⟩ := ⟨by decide, by decide, by decide, fun _ h => (by cases h), fun _ h => (by cases h), fun _ h => (by cases h)⟩
theorem b1g  : PC Tryz.prog Gl 7 [] (.bool true) := by
 have hA : PC Tryz.prog Gl 10 [.agg [.list 4 (fns p0.funcs), .list 2 (gbs p0.globals), .list 1 (lays p0.layouts), .int .i64 p0.main]] (.agg [.list 2 [[.int .i64 0, .int .i64 0], [.int .i64 0, .int .i64 0]], .list 1 [[.list 1 [[.list 1 [[.int .i64 1]]], [.list 1 [[.int .i64 0]]], [.list 1 [[.int .i64 1]]]]]], .list 1 [[.list 1 [[.int .i64 1]]], [.list 1 []]]]) := by
  have h := b6t pgb0
  rw [lfp0] at h
  exact h
 have hS : PC Tryz.prog Gl 14 [.agg [.list 4 (fns p0.funcs), .list 2 (gbs p0.globals), .list 1 (lays p0.layouts), .int .i64 p0.main], .agg [.list 2 [[.int .i64 0, .int .i64 0], [.int .i64 0, .int .i64 0]], .list 1 [[.list 1 [[.list 1 [[.int .i64 1]]], [.list 1 [[.int .i64 0]]], [.list 1 [[.int .i64 1]]]]]], .list 1 [[.list 1 [[.int .i64 1]]], [.list 1 []]]]] (.bool true) := by
  have h := a5d pgb0 ptb0
  rw [e1x] at h
  exact h
 have hU : PC Tryz.prog Gl 14 [.agg [.list 4 (fns p0.funcs), .list 2 (gbs p0.globals), .list 1 (lays p0.layouts), .int .i64 p0.main], .agg [.nils, .nils, .nils]] (.bool false) := by
  have h := a5d pgb0 ptbE
  rw [d7g] at h
  exact e2k h ⟨_, _, rfl, ⟨_, rfl, _, _, rfl, rfl, _, _, rfl, rfl, _, _, rfl, rfl, _, _, rfl, rfl, rfl⟩, _, _, rfl, ⟨_, rfl, _, _, rfl, .inr ⟨2, rfl⟩, _, _, rfl, .inr ⟨1, rfl⟩, _, _, rfl, .inr ⟨1, rfl⟩, rfl⟩, rfl⟩
 have hC : PC Tryz.prog Gl 18 [.agg [.list 4 (fns p0.funcs), .list 2 (gbs p0.globals), .list 1 (lays p0.layouts), .int .i64 p0.main], .agg [.list 2 [[.int .i64 0, .int .i64 0], [.int .i64 0, .int .i64 0]], .list 1 [[.list 1 [[.list 1 [[.int .i64 1]]], [.list 1 [[.int .i64 0]]], [.list 1 [[.int .i64 1]]]]]], .list 1 [[.list 1 [[.int .i64 1]]], [.list 1 []]]], .agg [.int .i64 0, .int .i64 3]] (.list 1 [[.int .i64 0]]) := by
  have h := c6c pgb0 ptb0 0 3
  rw [acc0] at h
  exact h
 have h1 : PC Tryz.prog Gl 17 [.list 1 [[.int .i64 1]], .list 1 [[.int .i64 1]]] (.bool true) := c2i [1] [1] (by decide)
 have h0 : PC Tryz.prog Gl 17 [.list 1 [[.int .i64 0]], .list 1 [[.int .i64 0]]] (.bool true) := c2i [0] [0] (by decide)
 have hE : PC Tryz.prog Gl 22 [] (.agg [.list 4 (fns p0.funcs), .list 2 (gbs p0.globals), .list 1 (lays p0.layouts), .int .i64 p0.main]) := d0y
 refine a3d (res := [.tmp 0]) 5 97 [] (fun d ix => 0 :: d :: ix) (fn := Tryz.f7) (by kernel_rfl) (by rfl) (by rfl) (by rfl) (by simp) (by decide) ?_
 repeat' first
  | with_reducible refine stp ?_
  | (with_reducible refine stpK ?_; intro K hK)
  | (with_reducible refine stpC ?_; intro T E hT hE)
  | (with_reducible refine stp2 ?_ ?_ <;> intro h)
  | with_reducible first | refine a0p rfl ?_ | refine a1h hE (by simp [nls, nl, *, NLXB]) ?_ | refine hpc hE (by simp [nls, nl, *, NLXB]) ?_ | refine a1h hA (by simp [nls, nl, *, NLXB]) ?_ | refine hpc hA (by simp [nls, nl, *, NLXB]) ?_ | refine a1h hS (by simp [nls, nl, nlss, a0f, a0h, a0a]) ?_
  | ((with_reducible refine cgH ?_); refine b4f 8 h1 rfl ?_ ?_ ?_; (focus (simp [asRs, asR]; done)); (focus (simp [sca]; done)))
  | ((with_reducible refine cgH ?_); refine b4f 8 h0 rfl ?_ ?_ ?_; (focus (simp [asRs, asR]; done)); (focus (simp [sca]; done)))
  | with_reducible first | refine a1h hU (by simp [nls, nl, nlss, a0f, a0h, a0a]) ?_ | refine a1h hC (by simp [nls, nl, nlss, a0f, a0h, a0a]) ?_ | refine a1r rfl (Nat.le_of_ble_eq_true rfl) a0r ?_ | refine a1r rfl (Nat.le_of_ble_eq_true rfl) (a0q (by simp [HPXB, ext, upd, *])) ?_ | refine a1s (by decide) (by kernel_rfl) ?_ | refine a0x (by decide) ?_
  | (with_reducible refine Kont.go hK ?_; clear hK K)
  | ((with_reducible first | refine KT.go hT ?_ | refine KT.go hE ?_); clear hT hE T E)
  | simp [*, -List.all_flatten, -List.all_eq_true, DEFB, asR, frz, frzs, frzR, frzN]
theorem d9e {p : Pg} (hv : a2v p = true) : ∃ x, Least p x := by
 have hp := vOk hv
 have key : ∀ n x, Rnd p x -> muR p x <= n -> ∃ y, Least p y := by
  intro n
  induction n with
  | zero =>
    intro x h hm
    by_cases e : x = a9x p x
    . exact ⟨x, h.fin hv e⟩
    . have := h.mu hp e; omega
  | succ n ih =>
    intro x h hm
    by_cases e : x = a9x p x
    . exact ⟨x, h.fin hv e⟩
    . exact ih _ (h.next hp) (by have := h.mu hp e; omega)
 exact key _ _ (rnd0 hp) (Nat.le_refl _)
theorem b1o {p : Pg} (hv : a2v p = true) : Least p (lfpP p) := by
 obtain ⟨x, hx⟩ := d9e hv
 rw [c7c hv hx]
 exact hx
theorem d3i {p : Pg} (hv : a2v p = true) : a2y p (lfpP p) = true := by
 have h := b1o hv
 simp [a2y, hv, b7r h.form, h.conds]
theorem d3j (p : Pg) : PtB 2000000 (lfpP p) := by
 cases hv : a2v p with
 | true => exact c7v (vOk hv) (b1o hv).form 2000000 (by decide)
 | false => rw [d3k hv]; exact ptbE
theorem c1x (p : Pg) (x : Pts) (s : Int × Int) : (accP p x s).length <= 64001 := by
 cases hs : a2y p x with
 | false => rw [c5i hs]; decide
 | true =>
   have hF := a5o hs
   have hsv := a2f (b3b hs)
   have key : ∀ f code pc n, okS (a0i p).length (accI x f code pc n) := fun f code pc n => by
    unfold accI
    split
    . exact hF.reg f _
    . split
      . exact hF.reg f _
      . split
        . exact c0i hF f code pc _
        . exact ⟨List.Pairwise.nil, by simp⟩
   have h0 : ∀ l, okS (a0i p).length l -> l.length <= 64001 := fun l hl => Nat.le_trans (a9i hl) (by omega)
   unfold accP
   split
   . split
     . split
       . exact h0 _ (key _ _ _ _)
       . decide
     . decide
   . decide
theorem d1n {p : Pg} {x : Pts} (hs : a2y p x = true) : Wi (lfpP p) x := by
 have hv := a4b hs
 have hF := a5o hs
 have hc : a5p p x := by
  simp only [a2y, Bool.and_eq_true, decide_eq_true_eq] at hs
  exact hs.2.2
 exact g0u (b1o hv).form hF ((b1o hv).least x hc hF.sites)
end Go.Ge
