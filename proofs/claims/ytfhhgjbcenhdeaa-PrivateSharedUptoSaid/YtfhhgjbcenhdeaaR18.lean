/- Parts of the proof. -/
import Derived.Test.YtfhhgjbcenhdeaaR13
set_option linter.unusedSimpArgs false
set_option linter.unusedVariables false
namespace Go.He
open Go Go.FM Go.Gv Go.Proofs
set_option maxRecDepth 100000
set_option maxHeartbeats 40000000
theorem c3k (a b : List Int) (hb : b.length <= 1000000000) (hlen : ∀ i, i <= b.length -> (a4d a (b.take i)).length <= 999999990) : PC Try.prog Gl 45 [.list 1 (ints a), .list 1 (ints b)] (.list 1 (ints (a4d a b))) := by
 refine a3w (res := [.tmp 4]) 6 19 [] (fun d ix => 0 :: d :: ix) (fn := Try.f45) (by kernel_rfl) (by rfl) (by rfl) (by rfl) (by simp) (by decide) ?_
 repeat' first
  | ((with_reducible refine a1o ?_); refine a2h (σ := {i : Nat // i <= b.length}) (fun y => [(5, .int .i64 (y.1 : Int)), (0, .list 1 (ints (a4d a (b.take y.1))))]) [] (fun y => []) [] (fun y => []) (fun y => noH) (fun y => b.length - y.1) ⟨0, by simp⟩ (gk3 (j := 0) [] (Bs.pc _) ?_ ?_ ?_ ?_ ?_ ?_ ?_) ?_; (iterate 7 (focus (first | rfl | (simp [LPXB, *, SIMB, hdN, injB, b8k]; done)))); rintro ⟨i, hi⟩; simp only [lpS, LPXB]; (try dsimp only at hi); rcases a1l hi with hlt | ⟨hlt, rfl⟩; have wi := wli hlt (by omega); have hw := e0n (a4d a (b.take i)) (b[i]'hlt) (hlen i hi); have hu := b6n (a := a) hlt; rotate_left; have ht := List.take_length (l := b); rotate_left)
  | ((with_reducible refine a1j ?_); refine a1w (⟨i + 1, by omega⟩) (gk3 (j := 0) [] (Bs.pc _) ?_ ?_ ?_ ?_ ?_ ?_ ?_) ?_; (iterate 7 (focus (first | rfl | (simp [LPXB, *, SIMB, hdN, injB]; done)))); (focus (dsimp only; omega)))
  | with_reducible refine stp ?_
  | (with_reducible refine stpK ?_; intro K hK)
  | (with_reducible refine stpC ?_; intro T E hT hE)
  | (with_reducible refine stp2 ?_ ?_ <;> intro h)
  | with_reducible first | refine a0q rfl ?_ | refine a1n hw (by simp [nls, nl, *, NLXB]) ?_ | refine hpc hw (by simp [nls, nl, *, NLXB]) ?_ | refine a0t rfl (Nat.le_of_ble_eq_true rfl) a0s ?_ | refine a0t rfl (Nat.le_of_ble_eq_true rfl) (a0r (by simp [HPXB, ext, upd, *])) ?_ | refine a1v (by decide) (by kernel_rfl) ?_ | refine a0x (by decide) ?_
  | (with_reducible refine Kont.go hK ?_; clear hK K)
  | ((with_reducible first | refine KT.go hT ?_ | refine KT.go hE ?_); clear hT hE T E)
  | simp [*, -List.all_flatten, -List.all_eq_true, DEFB, LENB, asR]
theorem e0r {p : Pg} (hp : VOk p) : ∀ i, i <= p.funcs.length -> (sitP p.funcs i).length <= 1 + i * 1000 := b9o fun x hx => (hp.regs hx).c1000
theorem a2b {p : Pg} (hp : VOk p) : (a0d p).length <= 64001 := by
 have := e0r hp p.funcs.length (Nat.le_refl _)
 have := hp.nf
 unfold a0d; omega
theorem e0t {p : Pg} (hp : VOk p) {i j : Nat} (hi : i < p.funcs.length) (hj : j <= p.funcs[i].code.length) : (sit2 p.funcs i j).length <= 70000 := by
 have h1 := d6x (B := 1000) (fun x hx => (hp.regs hx).c1000) hi hj
 have h2 := (hp.regs (List.getElem_mem hi)).c1000
 have := hp.nf
 omega
theorem d1a {p : Pg} (hp : VOk p) {i : Nat} (hi : i <= p.funcs.length) : (sitP p.funcs i).length <= 70000 := by
 have := e0r hp i hi
 have := hp.nf
 omega
theorem b8v {p : Pg} (hp : VOk p) {i : Nat} (hi : i < p.funcs.length) : p.funcs[i].code.length <= 1000 := (hp.regs (List.getElem_mem hi)).c1000
theorem b9k {p : Pg} (hp : VOk p) : PC Try.prog Gl 35 [.agg [.list 4 (fns p.funcs), .list 2 (gbs p.globals), .list 1 (lays p.layouts), .int .i64 p.main]] (.list 2 (sits (a0d p))) := by
 refine a3w (res := [.tmp 2]) 6 44 [] (fun d ix => 0 :: d :: ix) (fn := Try.f35) (by kernel_rfl) (by rfl) (by rfl) (by rfl) (by simp) (by decide) ?_
 repeat' first
  | ((with_reducible refine a1o ?_); refine a2h (σ := {i : Nat // i <= p.funcs.length}) (fun y => [(4, .int .i64 (y.1 : Int)), (5, .undef), (3, .sl [0, 1000] 2 0 (sitP p.funcs y.1).length)]) [] (fun y => []) [[0, 6], [0, 7]] (fun y => [([0, 1000], .cells 50 2 (sits (sitP p.funcs y.1)))]) (fun y => noH) (fun y => p.funcs.length - y.1) ⟨0, by simp⟩ (gk3 (j := 0) [] (Bs.pc _) ?_ ?_ ?_ ?_ ?_ ?_ ?_) ?_; (iterate 7 (focus (first | rfl | (simp [LPXB, *, SIMB, hdN, injB, e0s, sits, a8a]; done)))); rintro ⟨i, hi⟩; simp only [lpS, LPXB]; (try dsimp only at hi); rcases a1l hi with hlt | ⟨hlt, rfl⟩; have wi := wli hlt (by have := hp.nf; omega); have hc := b8v hp hlt; have hz := c1x p.funcs i; rotate_left; have e : a0d p = sitP p.funcs p.funcs.length := rfl; have hl := d1a hp (Nat.le_refl _); rotate_left)
  | ((with_reducible refine a1o ?_); refine a2h (σ := {j : Nat // j <= (p.funcs[i]'hlt).code.length}) (fun y => [(5, .int .i64 (y.1 : Int)), (3, .sl [0, 1000] 2 0 (sit2 p.funcs i y.1).length)]) [] (fun y => []) [] (fun y => [([0, 1000], .cells 50 2 (sits (sit2 p.funcs i y.1)))]) (fun y => noH) (fun y => (p.funcs[i]'hlt).code.length - y.1) ⟨0, by simp⟩ (gk3 (j := 0) [] (Bs.pc _) ?_ ?_ ?_ ?_ ?_ ?_ ?_) ?_; (iterate 7 (focus (first | rfl | (simp [LPXB, *, SIMB, hdN, injB, c1x]; done)))); rintro ⟨j, hj⟩; simp only [lpS, LPXB]; (try dsimp only at hj); rcases a1l hj with hlk | ⟨hlk, rfl⟩; have wk := wli hlk (by omega); have hl := e0t hp hlt hj; have hs := szn (n := (sit2 p.funcs i j).length + 1) (k := 16) (by omega) (by decide); have hs2 : (sit2 p.funcs i j).length + 1 <= 4611686018427387904 := (by omega); cases hac : alO ((p.funcs[i]'hlt).code[j]'hlk).op; rotate_left; rotate_left; have hen := c5w hlt; rotate_left)
  | ((with_reducible refine a1j ?_); refine a1w (⟨j + 1, by omega⟩) (gk3 (j := 0) [] (Bs.pc _) ?_ ?_ ?_ ?_ ?_ ?_ ?_) ?_; (iterate 7 (focus (have e := d1c hlt hlk hac; first | rfl | (simp [LPXB, *, SIMB, hdN, injB]; done)))); (focus (dsimp only; omega)))
  | ((with_reducible refine a1j ?_); refine a1w (⟨j + 1, by omega⟩) (gk3 (j := 0) [] (Bs.pc _) ?_ ?_ ?_ ?_ ?_ ?_ ?_) ?_; (iterate 7 (focus (have e := c5v hlt hlk hac; first | rfl | (simp [LPXB, *, SIMB, hdN, injB]; done)))); (focus (dsimp only; omega)))
  | ((with_reducible refine a1j ?_); refine a1w (⟨i + 1, by omega⟩) (gk3 (j := 0) [] (Bs.pc _) ?_ ?_ ?_ ?_ ?_ ?_ ?_) ?_; (iterate 7 (focus (first | rfl | (simp [LPXB, *, SIMB, hdN, injB]; done)))); (focus (dsimp only; omega)))
  | with_reducible refine stp ?_
  | (with_reducible refine stpK ?_; intro K hK)
  | (with_reducible refine stpC ?_; intro T E hT hE)
  | (with_reducible refine stp2 ?_ ?_ <;> intro h)
  | with_reducible first | refine a0q rfl ?_ | refine a1n (b6p _) (by simp [nls, nl, *, NLXB]) ?_ | refine hpc (b6p _) (by simp [nls, nl, *, NLXB]) ?_ | refine a0t rfl (Nat.le_of_ble_eq_true rfl) a0s ?_ | refine a0t rfl (Nat.le_of_ble_eq_true rfl) (a0r (by simp [HPXB, ext, upd, *])) ?_ | refine a1v (by decide) (by kernel_rfl) ?_ | refine a0x (by decide) ?_
  | (with_reducible refine Kont.go hK ?_; clear hK K)
  | ((with_reducible first | refine KT.go hT ?_ | refine KT.go hE ?_); clear hT hE T E)
  | simp [*, -List.all_flatten, -List.all_eq_true, DEFB, LENB, List.take_length, a9p, asR]
theorem e4q {l : List (Int × Int)} {s : Int × Int} {i : Nat} (h : noO l s i) (hi : ¬ i < l.length) : objR l s = 0 := e4o fun k hk h1 _ => h k hk h1 (by omega)
theorem c0d {a b : Int × Int} (h : ¬ a = b) : (decide (a.1 = b.1) && decide (a.2 = b.2)) = false := by
 rw [Bool.and_eq_false_iff, decide_eq_false_iff_not, decide_eq_false_iff_not]
 by_cases h1 : a.1 = b.1
 . exact .inr fun h2 => h (Prod.ext h1 h2)
 . exact .inl h1
theorem b5z {a b : Int × Int} (h : ¬ a = b) : a.1 = b.1 -> ¬ a.2 = b.2 := fun h1 h2 => h (Prod.ext h1 h2)
theorem c5p {p : Pg} (hp : VOk p) (s : Int × Int) : PC Try.prog Gl 46 [.agg [.list 4 (fns p.funcs), .list 2 (gbs p.globals), .list 1 (lays p.layouts), .int .i64 p.main], .agg [.int .i64 s.1, .int .i64 s.2]] (.int .i64 (objR (a0d p) s)) := by
 have hpos : 1 <= (a0d p).length := a6r p
 have hsv := a2b hp
 refine a3w (res := [.tmp 4]) 7 22 [] (fun d ix => 0 :: d :: ix) (fn := Try.f46) (by kernel_rfl) (by rfl) (by rfl) (by rfl) (by simp) (by decide) ?_
 repeat' first
  | ((with_reducible refine a1o ?_); refine a2h (σ := {i : Nat // 1 <= i /\ i <= (a0d p).length /\ noO (a0d p) s i}) (fun y => [(6, .int .i64 (y.1 : Int))]) [] (fun y => []) [] (fun y => []) (fun y => noH) (fun y => (a0d p).length - y.1) ⟨1, by simp, hpos, g1c _ _⟩ (gk3 (j := 0) [] (Bs.pc _) ?_ ?_ ?_ ?_ ?_ ?_ ?_) ?_; (iterate 7 (focus (first | rfl | (simp [LPXB, *, SIMB, hdN, injB]; done)))); rintro ⟨i, h1, hi, hk⟩; simp only [lpS, LPXB]; (try dsimp only at h1 hi hk); rcases a1l hi with hlt | ⟨hlt, he⟩; have wi := wli hlt (by omega); by_cases he : (a0d p)[i]'hlt = s; rotate_left; have hne := c0d he; have hne' := b5z he; rotate_left; rotate_left)
  | ((with_reducible refine a1j ?_); refine a1w (⟨i + 1, by omega, by omega, g1b hk hlt he⟩) (gk3 (j := 0) [] (Bs.pc _) ?_ ?_ ?_ ?_ ?_ ?_ ?_) ?_; (iterate 7 (focus (first | rfl | (simp [LPXB, *, SIMB, hdN, injB]; done)))); (focus (dsimp only; omega)))
  | with_reducible first | refine a0p (id := 5) 6 a0k (by kernel_rfl) fun K hK => ?_ | refine stp ?_
  | (with_reducible refine stpK ?_; intro K hK)
  | (with_reducible refine stpC ?_; intro T E hT hE)
  | (with_reducible refine stp2 ?_ ?_ <;> intro h)
  | with_reducible first | refine a0q rfl ?_ | refine a1n (b9k hp) (by simp [nls, nl, *, NLXB]) ?_ | refine hpc (b9k hp) (by simp [nls, nl, *, NLXB]) ?_ | refine a0t rfl (Nat.le_of_ble_eq_true rfl) a0s ?_ | refine a0t rfl (Nat.le_of_ble_eq_true rfl) (a0r (by simp [HPXB, ext, upd, *])) ?_ | refine a1v (by decide) (by kernel_rfl) ?_ | refine a0x (by decide) ?_
  | (with_reducible refine Kont.go hK ?_; clear hK K)
  | ((with_reducible first | refine KT.go hT ?_ | refine KT.go hE ?_); clear hT hE T E)
  | simp [*, -List.all_flatten, -List.all_eq_true, DEFB, LENB, a5e, a8a, eqV, List.take_length, a9p, asR]
 all_goals first
  | (rw [c6j h1 hlt hk he]; done)
  | (simp [c6j h1 hlt hk he]; done)
  | (simp [e4q hk hlt]; done)
  | trace_state
open Classical in
noncomputable def setB (l : List Int) (n : Int) : Bool := decide (inc l /\ ∀ x ∈ l, 0 <= x /\ x < n)
def seTo (l : List Int) (n : Int) (i : Nat) : Prop := ∀ j (hj : j < l.length), j < i -> 0 <= l[j] /\ l[j] < n /\ (∀ h : 0 < j, l[j - 1] < l[j])
theorem e0w (l : List Int) (n : Int) : seTo l n 0 := fun _ _ h => absurd h (by omega)
theorem e0v {l : List Int} {n : Int} {i : Nat} (h : seTo l n i) (hi : i < l.length) (h1 : ¬ l[i] < 0) (h2 : ¬ n <= l[i]) (h3 : ∀ h : 0 < i, ¬ l[i] <= l[i - 1]) : seTo l n (i + 1) := fun j hj hji => by
 by_cases e : j = i
 . subst e; exact ⟨by omega, by omega, fun h => by have := h3 h; omega⟩
 . exact h j hj (by omega)
theorem b9t {l : List Int} {n : Int} (h : seTo l n l.length) : setB l n = true := by
 simp only [setB, decide_eq_true_eq]
 refine ⟨?_, fun x hx => ?_⟩
 . unfold inc
   rw [List.pairwise_iff_getElem]
   intro i j hi hj hij
   have key : ∀ d (hd : i + d + 1 < l.length), l[i] < l[i + d + 1] := by
    intro d
    induction d with
    | zero => intro hd; exact (h (i + 0 + 1) hd hd).2.2 (by omega)
    | succ d ih =>
      intro hd
      have h1 := ih (by omega)
      have h2 := (h (i + (d + 1) + 1) hd hd).2.2 (by omega)
      have e : i + (d + 1) + 1 - 1 = i + d + 1 := by omega
      simp only [e] at h2
      omega
   have := key (j - i - 1) (by omega)
   have e : i + (j - i - 1) + 1 = j := by omega
   simp only [e] at this
   exact this
 . obtain ⟨j, hj, rfl⟩ := List.getElem_of_mem hx
   exact ⟨(h j hj hj).1, (h j hj hj).2.1⟩
theorem b9s {l : List Int} {n : Int} {i : Nat} (hi : i < l.length) (h : l[i] < 0) : setB l n = false := by
 simp only [setB, decide_eq_false_iff_not]
 rintro ⟨_, h2⟩
 have := h2 _ (List.getElem_mem hi)
 omega
theorem b9v {l : List Int} {n : Int} {i : Nat} (hi : i < l.length) (h : n <= l[i]) : setB l n = false := by
 simp only [setB, decide_eq_false_iff_not]
 rintro ⟨_, h2⟩
 have := h2 _ (List.getElem_mem hi)
 omega
theorem b9u {l : List Int} {n : Int} {i : Nat} (hi : i < l.length) (h0 : 0 < i) (h : l[i] <= l[i - 1]) : setB l n = false := by
 simp only [setB, decide_eq_false_iff_not]
 rintro ⟨h1, _⟩
 have := List.pairwise_iff_getElem.1 h1 (i - 1) i (by omega) hi (by omega)
 omega
theorem wm1 {i : Nat} (h : 0 < i) (hi : i <= 1000000000) : IntKind.wrap .i64 ((i : Int) - 1) = ((i - 1 : Nat) : Int) := by rw [IntKind.wrap_i64]; omega
theorem e8t (l : List Int) (n : Int) (hl : l.length <= 1000000000) : PC Try.prog Gl 33 [.list 1 (ints l), .int .i64 n] (.bool (setB l n)) := by
 refine a3w (res := [.tmp 4]) 6 41 [] (fun d ix => 0 :: d :: ix) (fn := Try.f33) (by kernel_rfl) (by rfl) (by rfl) (by rfl) (by simp) (by decide) ?_
 repeat' first
  | ((with_reducible refine a1o ?_); refine a2h (σ := {i : Nat // i <= l.length /\ seTo l n i}) (fun y => [(5, .int .i64 (y.1 : Int))]) [] (fun y => []) [] (fun y => []) (fun y => noH) (fun y => l.length - y.1) ⟨0, by simp, e0w l n⟩ (gk3 (j := 0) [] (Bs.pc _) ?_ ?_ ?_ ?_ ?_ ?_ ?_) ?_; (iterate 7 (focus (first | rfl | (simp [LPXB, *, SIMB, hdN, injB]; done)))); rintro ⟨i, hi, hk⟩; simp only [lpS, LPXB]; (try dsimp only at hi hk); rcases a1l hi with hlt | ⟨hlt, rfl⟩; have wi := wli hlt (by omega); by_cases c1 : (l[i]'hlt) < 0; rotate_left; by_cases c2 : n <= (l[i]'hlt); rotate_left; by_cases c3 : 0 < i; have wm := wm1 c3 (by omega); have hm1 : i - 1 < l.length := (by omega); by_cases c4 : (l[i]'hlt) <= (l[i - 1]'(by omega)); rotate_left; rotate_left)
  | ((with_reducible refine a1j ?_); refine a1w (⟨i + 1, by omega, e0v hk hlt c1 c2 (by intro h; first | exact c4 | exact absurd h c3)⟩) (gk3 (j := 0) [] (Bs.pc _) ?_ ?_ ?_ ?_ ?_ ?_ ?_) ?_; (iterate 7 (focus (first | rfl | (simp [LPXB, *, SIMB, hdN, injB]; done)))); (focus (dsimp only; omega)))
  | with_reducible first | refine a0p (id := 4) 29 a0k (by kernel_rfl) fun K hK => ?_ | refine stp ?_
  | (with_reducible refine stpK ?_; intro K hK)
  | (with_reducible refine stpC ?_; intro T E hT hE)
  | (with_reducible refine stp2 ?_ ?_ <;> intro h)
  | with_reducible first | refine a0q rfl ?_ | refine a0t rfl (Nat.le_of_ble_eq_true rfl) a0s ?_ | refine a0t rfl (Nat.le_of_ble_eq_true rfl) (a0r (by simp [HPXB, ext, upd, *])) ?_ | refine a1v (by decide) (by kernel_rfl) ?_ | refine a0x (by decide) ?_
  | (with_reducible refine Kont.go hK ?_; clear hK K)
  | ((with_reducible first | refine KT.go hT ?_ | refine KT.go hE ?_); clear hT hE T E)
  | simp [*, -List.all_flatten, -List.all_eq_true, DEFB, LENB]
 all_goals first
  | (simp [b9s hlt c1]; done)
  | (simp [b9v hlt c2]; done)
  | (simp [b9u hlt c3 c4]; done)
  | (simp [b9t hk]; done)
  | trace_state
end Go.He
namespace Go.He
open Go Go.FM Go.Gv Go.Proofs
set_option maxRecDepth 100000
set_option maxHeartbeats 40000000
open Classical in
noncomputable def a4k (p : Pg) : Pts := ⟨a0d p, p.funcs.map (fun f => List.replicate f.regs.toNat []), List.replicate (a0d p).length []⟩
def empR (fs : List FnD) : List (List FV) := fs.map fun f => [.list 1 (List.replicate f.regs.toNat [.nils])]
theorem a7l (fs : List FnD) : (empR fs).length = fs.length := by simp [empR]
theorem b6j : empR [] = [] := rfl
theorem d4k {fs : List FnD} {i : Nat} (h : i < fs.length) : empR (fs.take (i + 1)) = empR (fs.take i) ++ [[.list 1 (List.replicate fs[i].regs.toNat [.nils])]] := by
 rw [List.take_add_one, List.getElem?_eq_getElem h]; simp only [empR, List.map_append, List.map_cons, List.map_nil, Option.toList]
theorem b4u (n : Nat) (fs : List FnD) : (empR fs).take n = empR (fs.take n) := by simp [empR, List.map_take]
theorem b0g (n : Nat) : nlss (List.replicate n [FV.nils]) = true := by
 induction n with
 | zero => rfl
 | succ n ih => simp [List.replicate_succ, nlss, nls, nl, ih]
theorem a9s (fs : List FnD) : nlss (empR fs) = true := by
 induction fs with
 | nil => rfl
 | cons f fs ih => simp only [empR, List.map_cons, nlss, nls, nl, b0g, Bool.and_self, Bool.true_and] at ih ⊢; exact ih
theorem c2x (fs : List FnD) : (empR fs).flatten.all FV.cellV = true := by
 induction fs with
 | nil => rfl
 | cons f fs ih => simp only [empR, List.map_cons, List.flatten_cons, List.all_append] at ih ⊢; rw [ih]; rfl
theorem d5d (n : Nat) : asDss (List.replicate n [FV.nils]) (lays (List.replicate n [])) := by
 induction n with
 | zero => rfl
 | succ n ih => exact ⟨_, _, rfl, ⟨_, _, rfl, .inr ⟨1, rfl⟩, rfl⟩, ih⟩
theorem d9u (fs : List FnD) : asDss (empR fs) (lls (fs.map (fun f => List.replicate f.regs.toNat []))) := by
 induction fs with
 | nil => rfl
 | cons f fs ih => exact ⟨_, _, rfl, ⟨_, _, rfl, ⟨_, rfl, d5d _⟩, rfl⟩, ih⟩
theorem e9l {p : Pg} (hp : VOk p) {i : Nat} (hi : i < p.funcs.length) : 0 <= p.funcs[i].regs /\ p.funcs[i].regs <= 64 := by
 have := hp.regs (List.getElem_mem hi)
 have h1 := this.p0
 have h2 := this.p1
 have h3 := this.r64
 omega
theorem d6n {p : Pg} (hp : VOk p) : PC Try.prog Gl 23 [.agg [.list 4 (fns p.funcs), .list 2 (gbs p.globals), .list 1 (lays p.layouts), .int .i64 p.main]] (.agg [.list 2 (sits (a0d p)), .list 1 (empR p.funcs), .list 1 (List.replicate (a0d p).length [.nils])]) := by
 refine a3w (res := [.cell 2 30]) 5 33 [] (fun d ix => 0 :: d :: ix) (fn := Try.f23) (by kernel_rfl) (by rfl) (by rfl) (by rfl) (by simp) (by decide) ?_
 repeat' first
  | ((with_reducible refine a1o ?_); refine a2h (σ := {i : Nat // i <= p.funcs.length}) (fun y => [(4, .int .i64 (y.1 : Int))]) [] (fun y => []) [[0, 7]] (fun y => [([0, 3], .cells 30 3 [[.list 2 (sits (a0d p)), .sl [0, 1000] 1 0 y.1, .nils]]), ([0, 1000], .cells 24 1 (empR (p.funcs.take y.1)))]) (fun y => noH) (fun y => p.funcs.length - y.1) ⟨0, by simp⟩ (gk3 (j := 0) [([0, 1000], none)] (Bs.pc _) ?_ ?_ ?_ ?_ ?_ ?_ ?_) ?_; (iterate 7 (focus (first | rfl | (simp [LPXB, *, SIMB, hdN, injB, a9s, a7l, b6j, b4u, b0g, List.length_replicate]; done)))); rintro ⟨i, hi⟩; simp only [lpS, LPXB]; (try dsimp only at hi); rcases a1l hi with hlt | ⟨hlt, rfl⟩; have wi := wli hlt (by have := hp.nf; omega); obtain ⟨hr0, hr1⟩ := e9l hp hlt; have hq : 24 * (p.funcs[i]'hlt).regs <= 281474976710656 := (by omega); have hq2 : (p.funcs[i]'hlt).regs <= 4611686018427387904 := (by omega); have hnf := hp.nf; have hs := szn (n := i + 1) (k := 24) (by omega) (by decide); have hs2 : i <= 4611686018427387903 := (by omega); have hil := Nat.le_of_lt hlt; rotate_left; have hsv := a2b hp; have hq3 : (24 : Int) * ((a0d p).length : Int) <= 281474976710656 := (by omega); have hq4 : ((a0d p).length : Int) <= 4611686018427387904 := (by omega); rotate_left)
  | (with_reducible refine d4z (id := 5) [[0, 1000]] 12 a0k (by kernel_rfl) fun K hK => ?_)
  | (refine d5b (j := 9) (e := 24) (x := .tmp 16) (y := .tmp 24) (t := 28) (tx := 28) (Aj := upd noH [0, 24] (.cells 24 1 [[.sl [0, 23] 1 0 (p.funcs[i]'hlt).regs.toNat]])) [0, 1000] [0, 24] (.cells 24 1 (empR (p.funcs.take i))) (.cells 24 1 [[.sl [0, 23] 1 0 (p.funcs[i]'hlt).regs.toNat]]) 1 (empR (p.funcs.take i) ++ [[.sl [0, 23] 1 0 (p.funcs[i]'hlt).regs.toNat]]) (.sl [0, 25] 1 0 (i + 1)) (by decide) (by kernel_rfl) ?_ (by simp [a3b]) rfl (Nat.le_of_ble_eq_true rfl) ?_ (by kernel_rfl) ?_ ?_ ?_ (by decide) ?_ ?_ ?_ ?_; (focus (exact rfl)); (focus (first | rfl | simp)); (focus (first | rfl | simp [*, SIMB, rmvs, rmv, a3u])); (focus (first | rfl | simp [*, SIMB, rmvs, rmv, a3u])); (focus (first | rfl | simp [*, SIMB, rmvs, rmv, a3u])); (focus (first | rfl | simp [*, SIMB, rmvs, rmv, a3u])); (focus (first | rfl | simp [*, SIMB, rmvs, rmv, a3u])); (focus (simp [*, -List.all_flatten, -List.all_eq_true, DEFB, LENB, asR, rmvs, rmv, a3u, FV.cellV, c2x, a9s, a7l, b4u, List.take_take, Nat.min_self, a4r, List.take_length, b0g, List.length_replicate, List.length_take, Nat.min_eq_left, Nat.le_of_lt])))
  | ((with_reducible refine a1j ?_); refine a1w (⟨i + 1, by omega⟩) (Gk.trans (gk3 (j := 0) [([0, 1000], some [0, 25])] (Bs.pc _) ?_ ?_ ?_ ?_ ?_ ?_ ?_) (f0y [0, 23] 41 1 (List.replicate (p.funcs[i]'hlt).regs.toNat [.nils]) (fun _ h => h) (by simp [*, SIMB, a9s, a7l, b6j, b4u, b0g, List.length_replicate]) (by simp [*, SIMB, a9s, a7l, b6j, b4u, b0g, List.length_replicate]))) ?_; (iterate 7 (focus (have e := d4k hlt; first | rfl | (simp [LPXB, *, SIMB, hdN, injB, fz, fzs, fzss, fzO, fzT, fze, a4c, a7j, a6z, a7k, a6b, a9s, a7l, b6j, b4u, b0g, List.length_replicate]; done)))); (focus (dsimp only; omega)))
  | with_reducible refine stp ?_
  | (with_reducible refine stpK ?_; intro K hK)
  | (with_reducible refine stpC ?_; intro T E hT hE)
  | (with_reducible refine stp2 ?_ ?_ <;> intro h)
  | with_reducible first | refine a0q rfl ?_ | refine a1n (b9k hp) (by simp [nls, nl, *, NLXB]) ?_ | refine hpc (b9k hp) (by simp [nls, nl, *, NLXB]) ?_ | refine a0t rfl (Nat.le_of_ble_eq_true rfl) a0s ?_ | refine a0t rfl (Nat.le_of_ble_eq_true rfl) (a0r (by simp [HPXB, ext, upd, *])) ?_ | refine a1v (by decide) (by kernel_rfl) ?_ | refine a0x (by decide) ?_
  | (with_reducible refine Kont.go hK ?_; clear hK K)
  | ((with_reducible first | refine KT.go hT ?_ | refine KT.go hE ?_); clear hT hE T E)
  | simp [*, -List.all_flatten, -List.all_eq_true, DEFB, LENB, asR, rmvs, rmv, a3u, FV.cellV, c2x, a9s, a7l, b4u, List.take_take, Nat.min_self, a4r, List.take_length, b0g, List.length_replicate, List.length_take, Nat.min_eq_left, Nat.le_of_lt]
theorem b9l {p : Pg} (hp : VOk p) : PC Try.prog Gl 23 [.agg [.list 4 (fns p.funcs), .list 2 (gbs p.globals), .list 1 (lays p.layouts), .int .i64 p.main]] (.agg [.list 2 (sits (a4k p).sites), .list 1 (lls (a4k p).regs), .list 1 (lays (a4k p).cells)]) :=
 (d6n hp).deep ⟨_, rfl, _, _, rfl, a8d _, _, _, rfl, ⟨_, rfl, d9u _⟩, _, _, rfl, ⟨_, rfl, d5d _⟩, rfl⟩
end Go.He
