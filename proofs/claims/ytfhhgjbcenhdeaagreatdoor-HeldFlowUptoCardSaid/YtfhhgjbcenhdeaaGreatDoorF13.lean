/- Parts of the proof. -/
import Derived.Test.YtfhhgjbcenhdeaaGreatDoorF11
import Derived.Lib.SlicesCompact
import Derived.Test.YtfhhgjbcenhdeaaGreatDoorF10
import Derived.Lib.TrailingZeros
set_option linter.unusedSimpArgs false
set_option linter.unusedVariables false
namespace Go.Je
open Go Go.FM Go.Gv Go.Proofs
set_option maxRecDepth 100000
set_option maxHeartbeats 40000000
theorem c66 (p : Pg) (f : FnD) (x : Ins) (hc : f.code.length <= 2000000) (hf : p.funcs.length <= 2000000) (hg : p.globals.length <= 2000000) (hl : p.layouts.length <= 2000000) : PC Tryz.prog Gl 86 [.agg [.list 4 (fns p.funcs), .list 2 (gbs p.globals), .list 1 (lays p.layouts), .int .i64 p.main], .agg [.str f.name, .int .i64 f.params, .int .i64 f.regs, .list 5 (inss f.code)], .agg [.int .i64 x.op, .int .i64 x.a, .int .i64 x.b, .int .i64 x.c, .int .i64 x.d]] (.bool (a8h p f x)) := by
 by_cases ho : 1 <= x.op /\ x.op <= 52
 obtain ⟨⟨i1, i2, i3⟩, ⟨j1, j2, j3⟩, j4⟩ := c5t ho
 all_goals
  refine a8v (res := [.tmp 6]) 8 89 [] (fun d ix => d :: ix) (fn := Tryz.f86) (by kernel_rfl) (by rfl) (by rfl) (by rfl) (by simp) (by decide) ?_
  repeat' first
   | with_reducible first | refine stp ?_ | refine stpK ?_; intro K hK | refine stpC ?_; intro T E hT hE | refine stp2 ?_ ?_ <;> intro h | refine a2j (id := 2) 40 a0y (by kernel_rfl) fun K hK => ?_ | refine a0g rfl ?_ | refine a1e (c8q _ ho) (by simp [nls, nl, *, a0b, a0e, a0m, a0c, a0a]) ?_ | refine hpc (c8q _ ho) (by simp [nls, nl, *, a0b, a0e, a0m, a0c, a0a]) ?_ | refine a1e (d7c _ ho) (by simp [nls, nl, *, a0b, a0e, a0m, a0c, a0a]) ?_ | refine hpc (d7c _ ho) (by simp [nls, nl, *, a0b, a0e, a0m, a0c, a0a]) ?_ | refine a1e (c114 p f x _ _ hc hf hg hl) (by simp [nls, nl, *, a0b, a0e, a0m, a0c, a0a]) ?_ | refine hpc (c114 p f x _ _ hc hf hg hl) (by simp [nls, nl, *, a0b, a0e, a0m, a0c, a0a]) ?_ | refine a0j rfl (by decide) a0i ?_ | refine a0j rfl (by decide) (a0h (by simp [upd, noH, ext, a4w, a3l, *])) ?_ | refine a1g (by decide) (by kernel_rfl) ?_ | refine a0o (by decide) ?_ | refine Kont.go hK ?_; clear hK K | refine KT.go hT ?_; clear hT hE T E | refine KT.go hE ?_; clear hT hE T E
   | simp [*, -List.all_flatten, -List.all_eq_true, DEFO, -Bool.decide_and, eqV, a0n, a0x, a1c, a3c, a1n, a0a, a0b, a0e, a0m, a0c, a4z, a2b, a2o, a9b, a6k, a2f, Ins.row, FnD.row, Gb.row, a3w, Int.le_sub_one_iff]
  all_goals first
   | (simp_all [a8h]; done)
   | (rw [<- Bool.not_eq_true]; intro hh; simp [a8h, *] at hh <;> omega)
   | trace_state
theorem c66e (p : Pg) (f : FnD) (x : Ins) (o : Int) (ho : x.op = o) (hc : f.code.length <= 2000000) (hf : p.funcs.length <= 2000000) (hg : p.globals.length <= 2000000) (hl : p.layouts.length <= 2000000) : PC Tryz.prog Gl 86 [.agg [.list 4 (fns p.funcs), .list 2 (gbs p.globals), .list 1 (lays p.layouts), .int .i64 p.main], .agg [.str f.name, .int .i64 f.params, .int .i64 f.regs, .list 5 (inss f.code)], .agg [.int .i64 o, .int .i64 x.a, .int .i64 x.b, .int .i64 x.c, .int .i64 x.d]] (.bool (a8h p f x)) := by subst ho; exact c66 p f x hc hf hg hl
theorem c38 (p : Pg) (f : FnD) (hc : f.code.length <= 2000000) (hf : p.funcs.length <= 2000000) (hg : p.globals.length <= 2000000) (hl : p.layouts.length <= 2000000) : PC Tryz.prog Gl 46 [.agg [.list 4 (fns p.funcs), .list 2 (gbs p.globals), .list 1 (lays p.layouts), .int .i64 p.main], .agg [.str f.name, .int .i64 f.params, .int .i64 f.regs, .list 5 (inss f.code)]] (.bool (fnR p f)) := by
 have w1 := wl f.code.length (by omega)
 rcases d6z f.name with ⟨m1, m2⟩ | ⟨m1, m2⟩
 all_goals rcases c8m f.code with hn | ⟨hn, n1, z, n2, n3, n4⟩
 all_goals
  refine a8v (res := [.tmp 4]) 9 90 [] (fun d ix => d :: ix) (fn := Tryz.f46) (by kernel_rfl) (by rfl) (by rfl) (by rfl) (by simp) (by decide) ?_
  repeat' first
   | ((with_reducible refine a1a ?_); refine a7t (fun y : {y : Nat × Int // y.1 <= f.code.length /\ b1o p f f.code 0 = b1o p f (f.code.drop y.1) y.2} => (⟨[.agg [.list 4 (fns p.funcs), .list 2 (gbs p.globals), .list 1 (lays p.layouts), .int .i64 p.main], .agg [.str f.name, .int .i64 f.params, .int .i64 f.regs, .list 5 (inss f.code)], .ptr [2] 4 0 0, .ptr [3] 4 0 0, .bool false, .undef, .int .i64 y.1.2, .int .i64 (y.1.1 : Int), .undef], [], hpL [([2], .cells 26 4 [[.list 4 (fns p.funcs), .list 2 (gbs p.globals), .list 1 (lays p.layouts), .int .i64 p.main]]), ([3], .cells 35 4 [[.str f.name, .int .i64 f.params, .int .i64 f.regs, .list 5 (inss f.code)]])], []⟩ : Fs)) (fun y => f.code.length - y.1.1) ⟨(0, 0), by simp⟩ (a3m [] (fun _ h => h) (by rfl) ?_ ?_ ?_) ?_; (focus (simp [*, SIMF, NLQ, tL_, fA_, *]; done)); (focus (simp [*, SIMF, NLQ, tL_, fA_]; done)); (focus (simp [*, SIMF, NLQ, tL_, fA_, *]; done)); rintro ⟨⟨i, e⟩, hi, hk⟩; (try dsimp only at hi hk); have hk2 := hk; rcases a0z hi with hlt | ⟨hlt, rfl⟩; rotate_left; rw [c8i, b1o] at hk2; rotate_left; focus (rw [e0c hlt] at hk2; have wi := wli hlt (by omega); by_cases h51 : f.code[i].op = 51; all_goals by_cases he : 0 < e; all_goals by_cases h50 : f.code[i].op = 50))
   | ((with_reducible refine a0q ?_); refine a1b (⟨(i + 1, W (e - 1)), by dsimp only; omega, by dsimp only; rw [hk2]; simp [*]⟩) (a3m [] (fun _ h => h) (by rfl) ?_ ?_ ?_) (by dsimp only; omega); (iterate 3 (focus (simp [*, SIMF, NLQ, tL_, fA_, *]; done))))
   | ((with_reducible refine a0q ?_); refine a1b (⟨(i + 1, f.code[i].b), by dsimp only; omega, by dsimp only; rw [hk2]; simp [*]⟩) (a3m [] (fun _ h => h) (by rfl) ?_ ?_ ?_) (by dsimp only; omega); (iterate 3 (focus (simp [*, SIMF, NLQ, tL_, fA_, *]; done))))
   | ((with_reducible refine a0q ?_); refine a1b (⟨(i + 1, e), by dsimp only; omega, by dsimp only; rw [hk2]; simp [*]⟩) (a3m [] (fun _ h => h) (by rfl) ?_ ?_ ?_) (by dsimp only; omega); (iterate 3 (focus (simp [*, SIMF, NLQ, tL_, fA_, *]; done))))
   | with_reducible first | refine stp ?_ | refine stpK ?_; intro K hK | refine stpC ?_; intro T E hT hE | refine stp2 ?_ ?_ <;> intro h | refine a0g rfl ?_ | refine a1e (c66 p f _ hc hf hg hl) (by simp [nls, nl, *, a0b, a0e, a0m, a0c, a0a]) ?_ | refine hpc (c66 p f _ hc hf hg hl) (by simp [nls, nl, *, a0b, a0e, a0m, a0c, a0a]) ?_ | refine a1e (c66e p f f.code[i] _ h51 hc hf hg hl) (by simp [nls, nl, *, a0b, a0e, a0m, a0c, a0a]) ?_ | refine hpc (c66e p f f.code[i] _ h51 hc hf hg hl) (by simp [nls, nl, *, a0b, a0e, a0m, a0c, a0a]) ?_ | refine a1e (c66e p f f.code[i] _ h50 hc hf hg hl) (by simp [nls, nl, *, a0b, a0e, a0m, a0c, a0a]) ?_ | refine hpc (c66e p f f.code[i] _ h50 hc hf hg hl) (by simp [nls, nl, *, a0b, a0e, a0m, a0c, a0a]) ?_ | refine a0j rfl (by decide) a0i ?_ | refine a0j rfl (by decide) (a0h (by simp [upd, noH, ext, a4w, a3l, *])) ?_ | refine a1g (by decide) (by kernel_rfl) ?_ | refine a0o (by decide) ?_ | refine Kont.go hK ?_; clear hK K | refine KT.go hT ?_; clear hT hE T E | refine KT.go hE ?_; clear hT hE T E
   | simp [*, -List.all_flatten, -List.all_eq_true, DEFO, -Bool.decide_and, eqV, a0n, a0x, a1c, a3c, a1n, a0a, a0b, a0e, a0m, a0c, a4z, a2b, a2o, a9b, a6k, a2f, Ins.row, FnD.row, Gb.row, a3w, Int.le_sub_one_iff, List.length_drop]
  all_goals first
   | (simp_all [fnR, FnD.nm, a9f, a8z, btw, W]; done)
   | (rw [<- Bool.not_eq_true]; intro hh; simp [fnR, FnD.nm, a9f, a8z, btw, *] at hh <;> omega)
   | (clear hk; simp_all [fnR, FnD.nm, a9f, a8z, btw, W]; done)
   | (clear hk; rw [<- Bool.not_eq_true]; intro hh; simp [fnR, FnD.nm, a9f, a8z, btw, *] at hh <;> omega)
   | (clear hk; have q1 : f.code.length <= 1000 := (by omega); have q2 : f.regs <= 64 := (by omega); have q3 : 0 <= f.params := (by omega); have q4 : f.params <= f.regs := (by omega); simp [fnR, FnD.nm, a9f, a8z, btw, W, *]; done)
   | trace_state
end Go.Je
namespace Go.Gv
open Go Go.FM
set_option maxRecDepth 100000
set_option maxHeartbeats 40000000
def nxB (c : List Ins) (b : Nat × Nat) : List Int := ((nx c (hd c (b.2 - 1))).map fun v => (nmF c v.toNat : Int)).foldl a1x []
def blks (c : List Ins) : List (Nat × Nat) := bkF c c.length
def nxN (c : List Ins) (j : Nat) : List Int := match (blks c)[j]? with
 | some b => nxB c b
 | none => []
theorem b2i {v : Int} : ∀ (s a : List Int), v ∈ s.foldl a1x a ↔ v ∈ a \/ v ∈ s
 | [], a => by simp
 | x :: s, a => by
   rw [List.foldl_cons, b2i s (a1x a x), b9y, List.mem_cons, or_assoc]
theorem c3z {c : List Ins} {b : Nat × Nat} {v : Int} : v ∈ nxB c b ↔ ∃ w ∈ nx c (hd c (b.2 - 1)), v = (nmF c w.toNat : Int) := by
 unfold nxB
 rw [b2i]
 simp only [List.not_mem_nil, false_or, List.mem_map]
 exact ⟨fun ⟨w, h, e⟩ => ⟨w, h, e.symm⟩, fun ⟨w, h, e⟩ => ⟨w, h, e.symm⟩⟩
inductive RB (c : List Ins) : Nat -> Prop
 | zero : RB c 0
 | step {j : Nat} {v : Int} : RB c j -> v ∈ nxN c j -> RB c v.toNat
theorem b7e {c : List Ins} (hc : CodeOk c) {i : Nat} (h : i < c.length) : ∃ hj : nmF c i < (blks c).length, (blks c)[nmF c i].1 <= i /\ i < (blks c)[nmF c i].2 := by
 have := e9g c c.length i (by rw [c3p hc]; exact h)
 exact this
theorem a9c {c : List Ins} {j : Nat} (h : j < (blks c).length) : BkIn c j (blks c)[j] /\ (blks c)[j].2 <= c.length := d0o c c.length j h
theorem d3o {c : List Ins} {j : Nat} (h : j < (blks c).length) : nxN c j = nxB c (blks c)[j] := by
 unfold nxN
 rw [gE_ h]
theorem c2b {c : List Ins} (hc : CodeOk c) {j : Nat} {v : Int} (h : v ∈ nxN c j) : 0 <= v /\ v < ((blks c).length : Int) := by
 unfold nxN at h
 split at h
 . obtain ⟨w, hw, rfl⟩ := c3z.1 h
   obtain ⟨h1, h2, _⟩ := a7y hc hw
   obtain ⟨h3, _⟩ := b7e hc h2
   omega
 . cases h
theorem d5b {c : List Ins} (hc : CodeOk c) {i : Nat} (h : i < c.length) (e : c[i].op = 51) : ∃ hj : hd c i < i, c[hd c i].op = 50 /\ (i : Int) <= hd c i + c[hd c i].b := by
 obtain ⟨j, hj, g1, g2, g3⟩ := hc.cas i h e
 have key : ∀ k, j <= k -> k <= i -> hd c k = j := fun k => by
  induction k with
  | zero => intro h1 _; rw [Nat.le_zero.1 h1]; rfl
  | succ k ih =>
    intro h1 h2
    by_cases ek : j = k + 1
    . subst ek
      exact a6y (by omega) (by omega)
    . rw [hd_s (by omega) (g3 (k + 1) (by omega) (by omega) h2)]
      exact ih (by omega) (by omega)
 have := key i (by omega) (nr_ _)
 simp only [this]
 exact ⟨hj, g1, g2⟩
theorem d3t {c : List Ins} (hc : CodeOk c) {j : Nat} (h : j < (blks c).length) {v : Int} (hv : v ∈ nx c (hd c ((blks c)[j].2 - 1))) : (a3e c)[v.toNat]? = some true := by
 obtain ⟨B, hB⟩ := a9c h
 generalize hb : (blks c)[j] = b at B hB hv
 have hlt := B.lt
 have hle := c0m c (b.2 - 1)
 generalize hi : hd c (b.2 - 1) = i at hv hle
 have hil : i < c.length := by omega
 have hop : c[i].op ≠ 51 := by
  have := d5a hc (b.2 - 1) (by omega) (by rw [hi]; omega)
  simpa only [hi] using this
 have L : ∀ w : Int, w ∈ ldI c i -> (a3e c)[w.toNat]? = some true := fun w hw => ((a5e hc).2 (.inr ⟨i, hil, hw⟩)).2
 have E : v = (b.2 : Int) -> (a3e c)[v.toNat]? = some true := fun e => by rw [e, tN_]; exact B.l2
 -- the last instruction, where no case follows
 have T : c[i].op ≠ 50 -> i = b.2 - 1 := fun n50 => by
  by_cases e5 : c[b.2 - 1].op = 51
  . obtain ⟨g1, g2, _⟩ := d5b hc (by omega) e5
    simp only [hi] at g2
    omega
  . rw [a6y (by omega) e5] at hi; exact hi.symm
 rw [c3y hil] at hv
 split at hv
 . cases hv
 split at hv
 . rename_i e
   rw [List.mem_singleton] at hv; subst hv
   exact L _ (by rw [b2k hil, if_pos (.inl e)]; simp)
 split at hv
 . rename_i e
   rcases c2g.1 hv with hv | hv
   . subst hv
     exact L _ (by rw [b2k hil, if_pos (.inr e)]; simp)
   . subst hv
     exact L _ (by rw [b2k hil, if_pos (.inr e)]; simp)
 split at hv
 . rename_i e
   rw [List.mem_singleton] at hv
   obtain ⟨⟨s1, _⟩, s2, s3, s4⟩ := hc.sel i hil e
   refine E ?_
   rcases Nat.lt_or_ge (b.2 - 1) (i + 1 + c[i].b.toNat) with h1 | h1
   . rcases Nat.lt_or_ge b.2 (i + 1 + c[i].b.toNat) with h2 | h2
     . -- a leader that is a case
       obtain ⟨g1, g2⟩ := s2 (b.2 - i - 1) (by omega)
       have e2 : i + 1 + (b.2 - i - 1) = b.2 := by omega
       simp only [e2] at g2
       exact absurd g2 (c4c hc B.l2 (by omega))
     . omega
   . by_cases e5 : c[b.2 - 1].op = 51
     . obtain ⟨g1, g2, g3⟩ := d5b hc (by omega) e5
       simp only [hi] at g3
       omega
     . rw [a6y (by omega) e5] at hi; omega
 . rename_i n30 n16 n17 n50
   rw [List.mem_singleton] at hv
   have := T (by omega)
   exact E (by omega)
theorem d7i {c : List Ins} (hc : CodeOk c) {j : Nat} (h : j < (blks c).length) (hr : Rc c (blks c)[j].1) : ∀ i, (blks c)[j].1 <= i -> i < (blks c)[j].2 -> Rc c (hd c i) := by
 obtain ⟨B, hB⟩ := a9c h
 generalize hb : (blks c)[j] = b at B hB hr
 intro i
 induction i with
 | zero =>
   intro h1 _
   have : b.1 = 0 := by omega
   rw [this] at hr; exact hr
 | succ i ih =>
   intro h1 h2
   by_cases e1 : b.1 = i + 1
   . have ho := hr.op hc (by omega)
     rw [<- e1, a6y (by omega) ho]; exact hr
   . have ihr := ih (by omega) (by omega)
     by_cases e5 : c[i + 1].op = 51
     . rw [hd_s (by omega) e5]; exact ihr
     rw [a6y (by omega) e5]
     have hnl : ¬ (a3e c)[i + 1]? = some true := fun hl => by
      have g1 := (B.num (i + 1) h1 h2).1
      rw [c1q hl] at g1
      omega
     have hni : ∀ w : Int, w ∈ ldI c i -> w ≠ (i : Int) + 1 := fun w hw e => hnl (by
      have := ((a5e hc).2 (.inr ⟨i, by omega, hw⟩)).2
      rw [e] at this
      have e2 : ((i : Int) + 1).toNat = i + 1 := by omega
      rwa [e2] at this)
     have e2 : ((i : Int) + 1).toNat = i + 1 := by omega
     by_cases e51 : c[i].op = 51
     . obtain ⟨g1, g2, g3⟩ := d5b hc (by omega) e51
       obtain ⟨q, hq⟩ : ∃ q, hd c i = q := ⟨_, rfl⟩
       simp only [hq] at ihr g1 g2 g3
       obtain ⟨⟨s1, _⟩, s2, s3, s4⟩ := hc.sel q (by omega) g2
       have e3 : (i : Int) = q + c[q].b := by
        rcases Int.lt_or_le (i : Int) (q + c[q].b) with h3 | h3
        . obtain ⟨g4, g5⟩ := s2 (i - q) (by omega)
          have e6 : q + 1 + (i - q) = i + 1 := by omega
          simp only [e6] at g5
          exact absurd g5 e5
        . omega
       have : (i : Int) + 1 ∈ nx c q := by
        rw [c3y (by omega), if_neg (by omega), if_neg (by omega), if_neg (by omega), if_pos g2, List.mem_singleton]
        omega
       have := ihr.step this
       rwa [e2] at this
     . rw [a6y (by omega) e51] at ihr
       have hlI := b2k (c := c) (i := i) (by omega)
       have n17 : ¬ (c[i].op = 16 \/ c[i].op = 17 \/ c[i].op = 45) := fun e => hni ((i : Int) + 1) (by rw [hlI, if_pos e]; simp) rfl
       have n30 : ¬ c[i].op = 30 := fun e => hni ((i : Int) + 1) (by rw [hlI, if_neg n17, if_pos e]; simp) rfl
       have : (i : Int) + 1 ∈ nx c i := by
        rw [c3y (by omega), if_neg (by omega), if_neg (by omega), if_neg (by omega)]
        split
        . rename_i e
          rw [List.mem_singleton]
          obtain ⟨⟨s1, _⟩, s2, s3, s4⟩ := hc.sel i (by omega) e
          have : ¬ 0 < c[i].b := fun h3 => by
           obtain ⟨g4, g5⟩ := s2 0 (by omega)
           exact absurd g5 e5
          omega
        . simp
       have := ihr.step this
       rwa [e2] at this
theorem b8m {c : List Ins} {i : Nat} (h : (a3e c)[i]? = some true) : stF c i = i := by
 cases i with
 | zero => rfl
 | succ i => exact c1q h
theorem e6g {c : List Ins} (hc : CodeOk c) {j : Nat} (h : RB c j) : j < (blks c).length := by
 cases h with
 | zero =>
   obtain ⟨h1, _⟩ := b7e hc hc.ne
   have : nmF c 0 = 0 := rfl
   omega
 | step _ h => have := c2b hc h; omega
theorem f6z {c : List Ins} (hc : CodeOk c) {j : Nat} (h : RB c j) : ∀ hj : j < (blks c).length, Rc c (blks c)[j].1 := by
 induction h with
 | zero =>
   intro hj
   have : (blks c)[0].1 = 0 := c8u hj
   rw [this]; exact .zero hc.ne
 | @step j v h1 h2 ih =>
   intro hj
   have hj0 := e6g hc h1
   rw [d3o hj0] at h2
   obtain ⟨w, hw, rfl⟩ := c3z.1 h2
   have hl := d3t hc hj0 hw
   obtain ⟨_, hwl, _⟩ := a7y hc hw
   simp only [tN_] at hj ⊢
   obtain ⟨g1, g2, g3⟩ := b7e hc hwl
   have g4 := ((a9c g1).1.num _ g2 g3).1
   rw [b8m hl] at g4
   rw [<- g4]
   have hlt := (a9c hj0).1.lt
   exact .step (d7i hc hj0 (ih hj0) ((blks c)[j].2 - 1) (by omega) (by omega)) hw
theorem f2a {c : List Ins} (hc : CodeOk c) {i : Nat} (h : Rc c i) : RB c (nmF c i) := by
 induction h with
 | zero => exact .zero
 | @step i v h1 hv ih =>
   have hi := h1.lt hc
   have hop := h1.op hc hi
   obtain ⟨h2, hvl, hvo⟩ := a7y hc hv
   obtain ⟨g1, g2, g3⟩ := b7e hc hi
   obtain ⟨B, hB⟩ := a9c g1
   by_cases e : hd c ((blks c)[nmF c i].2 - 1) = i
   . have : RB c ((nmF c v.toNat : Nat) : Int).toNat := .step ih (by rw [d3o g1]; exact c3z.2 ⟨v, by rw [e]; exact hv, rfl⟩)
     rwa [tN_] at this
   . -- the same block
     generalize hb : (blks c)[nmF c i] = b at B hB e g2 g3
     have same : b.1 <= v.toNat -> v.toNat < b.2 -> RB c (nmF c v.toNat) := fun a1 a2 => by rw [(B.num _ a1 a2).2]; exact ih
     have hend : b.2 = i + 1 -> False := fun e2 => e (by
      have : b.2 - 1 = i := by omega
      rw [this]; exact a6y hi hop)
     have hld : (i : Int) + 1 ∈ ldI c i -> False := fun hm => by
      have hl := ((a5e hc).2 (.inr ⟨i, hi, hm⟩)).2
      have e2 : ((i : Int) + 1).toNat = i + 1 := by omega
      rw [e2] at hl
      rcases Nat.lt_or_ge (i + 1) b.2 with h5 | h5
      . have := (B.num (i + 1) (by omega) h5).1
        rw [b8m hl] at this
        omega
      . exact hend (by omega)
     have hlI := b2k (c := c) (i := i) hi
     have n17 : ¬ (c[i].op = 16 \/ c[i].op = 17 \/ c[i].op = 45) := fun e => hld (by rw [hlI, if_pos e]; simp)
     have n30 : ¬ c[i].op = 30 := fun e => hld (by rw [hlI, if_neg n17, if_pos e]; simp)
     rw [c3y hi, if_neg (by omega), if_neg (by omega), if_neg (by omega)] at hv
     split at hv
     . rename_i e5
       rw [List.mem_singleton] at hv
       obtain ⟨⟨s1, _⟩, s2, s3, s4⟩ := hc.sel i hi e5
       rcases Nat.lt_or_ge v.toNat b.2 with h5 | h5
       . exact same (by omega) h5
       . exfalso
         refine e ?_
         have key : ∀ k, i <= k -> k < i + 1 + c[i].b.toNat -> hd c k = i := fun k => by
          induction k with
          | zero => intro a1 _; rw [Nat.le_zero.1 a1]; rfl
          | succ k ihk =>
            intro a1 a2
            by_cases ek : i = k + 1
            . subst ek; exact a6y hi hop
            . obtain ⟨g4, g5⟩ := s2 (k - i) (by omega)
              have e6 : i + 1 + (k - i) = k + 1 := by omega
              simp only [e6] at g4 g5
              rw [hd_s (by omega) g5]
              exact ihk (by omega) (by omega)
         exact key _ (by omega) (by omega)
     . rw [List.mem_singleton] at hv
       have e2 : v.toNat = i + 1 := by omega
       rcases Nat.lt_or_ge v.toNat b.2 with h5 | h5
       . exact same (by omega) h5
       . exact (hend (by omega)).elim
def e2d (c : List Ins) (l : List Int) : Prop := ∀ o, o ∈ l ↔ 0 <= o /\ RB c o.toNat
def rW (r v : Int) : List Int := if r = 100 \/ (r = 68 /\ 0 <= v) then [v] else []
def dfI (n : Ins) : List Int := rW (rR n.op).1 n.a ++ (rW (rR n.op).2.1 n.b ++ rW (rR n.op).2.2 n.c)
def dfL (n : Ins) : List Int := (dfI n).foldl a1x []
def wrB (n : Ins) (r : Int) : Bool := (decide (n.op = 51) && (decide (n.b = 0) && decide (n.c = r))) || decide (r ∈ dfL n)
def usB (c : List Ins) (r : Int) (a : Nat) : Nat -> Int
 | 0 => -1
 | i + 1 => if i < a then -1 else match c[i]? with
   | none => -1
   | some n => if wrB n r then (if n.op = 18 then n.b else -1) else usB c r a i
def lkO (n : Int) : Bool := decide (n = 39) || decide (n = 40)
def usC (c : List Ins) (i : Nat) : Int := match c[i]? with
 | none => -1
 | some n => if lkO n.op then usB c n.a (stF c i) i else -1
theorem d1e {c : List Ins} {r : Int} {a i : Nat} (h : i <= a) : usB c r a i = -1 := by
 cases i with
 | zero => rfl
 | succ i => rw [usB, if_pos (by omega)]
theorem f0n {c : List Ins} {r : Int} {a i : Nat} (h : i < c.length) (ha : a <= i) : usB c r a (i + 1) = if wrB c[i] r then (if c[i].op = 18 then c[i].b else -1) else usB c r a i := by
 rw [usB, if_neg (by omega), gE_ h]
theorem c5m {c : List Ins} {i : Nat} (h : i < c.length) : usC c i = if lkO c[i].op then usB c c[i].a (stF c i) i else -1 := by
 unfold usC
 rw [gE_ h]
theorem e2r {c : List Ins} {r : Int} {a : Nat} : ∀ i, usB c r a i = -1 \/ ∃ j, ∃ hj : j < c.length, c[j].op = 18 /\ usB c r a i = c[j].b
 | 0 => .inl rfl
 | i + 1 => by
   unfold usB
   split
   . exact .inl rfl
   . split
     . exact .inl rfl
     . rename_i n hn
       obtain ⟨hi, rfl⟩ := List.getElem?_eq_some_iff.1 hn
       split
       . split
         . rename_i e
           exact .inr ⟨i, hi, e, rfl⟩
         . exact .inl rfl
       . exact e2r i
theorem f0l {p : Pg} (hp : VOk p) {f : FnD} (hf : f ∈ p.funcs) (i : Nat) : -1 <= usC f.code i /\ usC f.code i < (p.globals.length : Int) := by
 have key : ∀ r a, -1 <= usB f.code r a i /\ usB f.code r a i < (p.globals.length : Int) := fun r a => by
  rcases e2r (c := f.code) (r := r) (a := a) i with h | ⟨j, hj, h1, h2⟩
  . omega
  . have := (hp.ins f hf _ (gm_ hj)).b
    rw [h1] at this
    simp [opR, rR] at this
    omega
 unfold usC
 split
 . omega
 . split
   . exact key _ _
   . omega
theorem opA {c : List Ins} {i : Nat} (h : i < c.length) : opAt c (i : Int) = c[i].op := by simp [opAt, gE_ h]
variable {N : Nat}
def aftB (n : Ins) (u : Int) (s : BitVec N) : BitVec N := if 0 <= u then (if n.op = 39 then s ||| BitVec.twoPow N u.toNat else s &&& ~~~BitVec.twoPow N u.toNat) else s
theorem c8y {n : Ins} {u : Int} {s : BitVec N} {v : Nat} (hv : v < N) : (aftB n u s).getLsbD v = if u = (v : Int) then decide (n.op = 39) else s.getLsbD v := by
 unfold aftB
 split
 . rename_i h0
   split
   . rename_i h1
     rw [BitVec.getLsbD_or, BitVec.getLsbD_twoPow]
     by_cases e : u = (v : Int)
     . subst e; simp [hv, h1]
     . have : ¬ u.toNat = v := by omega
       simp [e, this]
   . rename_i h1
     rw [BitVec.getLsbD_and, BitVec.getLsbD_not, BitVec.getLsbD_twoPow]
     by_cases e : u = (v : Int)
     . subst e; simp [hv, h1]
     . have : ¬ u.toNat = v := by omega
       simp [e, this, hv]
 . rw [if_neg (by omega)]
def cntB (s : BitVec N) : Nat := ((List.range N).filter fun v => s.getLsbD v).length
theorem e4c {s t : BitVec N} (h : ∀ v, v < N -> s.getLsbD v = t.getLsbD v) : s = t := BitVec.eq_of_getLsbD_eq fun i hi => h i hi
theorem d5w : ∀ (l : List Nat) (f g : Nat -> Bool), (∀ v ∈ l, f v = true -> g v = true) -> (l.filter f).length <= (l.filter g).length /\ ((l.filter f).length = (l.filter g).length -> ∀ v ∈ l, f v = g v)
 | [], _, _, _ => ⟨nr_ _, fun _ v h => by cases h⟩
 | a :: l, f, g, h => by
   obtain ⟨h1, h2⟩ := d5w l f g fun v hv => h v (List.mem_cons_of_mem _ hv)
   have h0 := h a (by simp)
   cases hf : f a <;> cases hg : g a
   . rw [List.filter_cons_of_neg (by simp [hf]), List.filter_cons_of_neg (by simp [hg])]
     refine ⟨h1, fun e v hv => ?_⟩
     rcases List.mem_cons.1 hv with rfl | hv
     . rw [hf, hg]
     . exact h2 e v hv
   . rw [List.filter_cons_of_neg (by simp [hf]), List.filter_cons_of_pos (by simp [hg]), List.length_cons]
     exact ⟨by omega, fun e => by omega⟩
   . rw [h0 hf] at hg; cases hg
   . rw [List.filter_cons_of_pos (by simp [hf]), List.filter_cons_of_pos (by simp [hg]), List.length_cons, List.length_cons]
     refine ⟨by omega, fun e v hv => ?_⟩
     rcases List.mem_cons.1 hv with rfl | hv
     . rw [hf, hg]
     . exact h2 (by omega) v hv
theorem d6t {x o : BitVec N} (h : x &&& o ≠ x) : cntB (x &&& o) < cntB x := by
 obtain ⟨h1, h2⟩ := d5w (List.range N) (fun v => (x &&& o).getLsbD v) (fun v => x.getLsbD v) fun v _ hv => by
  simp only [BitVec.getLsbD_and, bA_] at hv
  exact hv.1
 unfold cntB
 rcases Nat.lt_or_ge ((List.range N).filter fun v => (x &&& o).getLsbD v).length ((List.range N).filter fun v => x.getLsbD v).length with h3 | h3
 . exact h3
 . exact absurd (e4c fun v hv => h2 (by omega) v (by simpa using hv)) h
theorem e9u {x o : BitVec N} (h : x &&& o = x) {v : Nat} (hv : x.getLsbD v = true) : o.getLsbD v = true := by
 rw [<- h, BitVec.getLsbD_and, bA_] at hv
 exact hv.2
def d0r (N : Nat) (c : List Ins) (X : Nat -> Nat -> Prop) : Prop :=
 (∀ v, ¬ X 0 v) /\ (∀ i v, X i v -> Rc c i /\ v < N) /\ ∀ i (hi : i < c.length), Rc c i -> ∀ w ∈ nx c i, ∀ v, X w.toNat v -> (if usC c i = (v : Int) then c[i].op = 39 else X i v)
def Hd (N : Nat) (c : List Ins) (i v : Nat) : Prop := ∃ X, d0r N c X /\ X i v
theorem Hd.post (N : Nat) (c : List Ins) : d0r N c (Hd N c) := by
 refine ⟨fun v ⟨X, h, hx⟩ => h.1 v hx, fun i v ⟨X, h, hx⟩ => h.2.1 i v hx, fun i hi hr w hw v ⟨X, h, hx⟩ => ?_⟩
 have := h.2.2 i hi hr w hw v hx
 split
 . rename_i e; rw [if_pos e] at this; exact this
 . rename_i e; rw [if_neg e] at this; exact ⟨X, h, this⟩
def edB (o : BitVec N) (s : List (BitVec N) × Bool) (w : Int) : List (BitVec N) × Bool := match s.1[w.toNat]? with
 | none => s
 | some x => if x &&& o = x then s else (s.1.set w.toNat (x &&& o), true)
def edsB (o : BitVec N) (s : List (BitVec N) × Bool) (l : List Int) : List (BitVec N) × Bool := l.foldl (edB o) s
theorem d6j (o : BitVec N) (s : List (BitVec N) × Bool) {l : List Int} {k : Nat} (h : k < l.length) : edsB o s (l.take (k + 1)) = edB o (edsB o s (l.take k)) l[k] := by
 unfold edsB
 rw [List.take_succ_eq_append_getElem h, List.foldl_append]
 rfl
def szG (c : List Ins) (g : List (BitVec N)) : Nat := ((List.range c.length).map fun (i : Nat) => if opAt c ((i : Nat) : Int) = 51 then 0 else cntB (g.getD i 0)).sum
structure Hin (N : Nat) (c : List Ins) (g : List (BitVec N)) : Prop where
 len : g.length = c.length
 up : ∀ X, d0r N c X -> ∀ i v, X i v -> (g.getD i 0).getLsbD v = true
 no : ∀ i, i < c.length -> ¬ Rc c (hd c i) -> g.getD i 0 = 0
 h0 : g.getD 0 0 = 0
def HC (c : List Ins) (g r : List (BitVec N)) (m : Bool) : Prop := (m = false -> ∀ i, i < c.length -> opAt c (i : Int) ≠ 51 -> r.getD i 0 = g.getD i 0) /\ (m = true -> szG c r < szG c g) /\ szG c r <= szG c g
theorem HC.refl (c : List Ins) (g : List (BitVec N)) : HC c g g false := ⟨fun _ _ _ _ => rfl, fun h => (by cases h), nr_ _⟩
theorem HC.trans {c : List Ins} {g r q : List (BitVec N)} {m m' : Bool} (h : HC c g r m) (h' : HC c r q m') : HC c g q (m' || m) := by
 refine ⟨fun e i hi ho => ?_, fun e => ?_, Nat.le_trans h'.2.2 h.2.2⟩
 . simp only [Bool.or_eq_false_iff] at e
   rw [h'.1 e.1 i hi ho, h.1 e.2 i hi ho]
 . have := h.2.2; have := h'.2.2
   cases m'
   . have := h.2.1 (by simpa using e); omega
   . have := h'.2.1 rfl; omega
theorem a6u {g : List (BitVec N)} {i j : Nat} (h : i < g.length) {x : BitVec N} : (g.set i x).getD j 0 = if i = j then x else g.getD j 0 := by
 rw [gD_, List.getElem?_set]
 by_cases e : i = j
 . subst e; rw [if_pos rfl, if_pos h, if_pos rfl]; rfl
 . rw [if_neg e, if_neg e, gD_]
theorem d1x {c : List Ins} {g : List (BitVec N)} (hl : g.length = c.length) {i : Nat} (hi : i < c.length) {x : BitVec N} : (opAt c (i : Int) = 51 -> szG c (g.set i x) = szG c g) /\ (opAt c (i : Int) ≠ 51 -> szG c (g.set i x) + cntB (g.getD i 0) = szG c g + cntB x) := by
 have := d1y c.length (fun (j : Nat) => if opAt c (j : Int) = 51 then 0 else cntB (g.getD j 0)) (fun (j : Nat) => if opAt c (j : Int) = 51 then 0 else cntB ((g.set i x).getD j 0)) i hi fun j hj => by
  rw [a6u (by omega), if_neg (Ne.symm hj)]
 simp only [a6u (show i < g.length by omega), if_true] at this
 unfold szG
 refine ⟨fun e => ?_, fun e => ?_⟩
 . simp only [e, if_true] at this
   simp only [a6u (show i < g.length by omega)]
   omega
 . simp only [e, if_false] at this
   simp only [a6u (show i < g.length by omega)]
   omega
theorem f8r {c : List Ins} (hc : CodeOk c) {g : List (BitVec N)} {m : Bool} {g0 : List (BitVec N)} (hI : Hin N c g) (hC : HC c g0 g m) {i : Nat} (hr : Rc c i) {w : Int} (hw : w ∈ nx c i) {o : BitVec N}
 (ho : ∀ X, d0r N c X -> ∀ v, X w.toNat v -> o.getLsbD v = true) :
 Hin N c (edB o (g, m) w).1 /\ HC c g0 (edB o (g, m) w).1 (edB o (g, m) w).2 /\ ((edB o (g, m) w).2 = false -> m = false /\ (edB o (g, m) w).1 = g /\ (g.getD w.toNat 0) &&& o = g.getD w.toNat 0) := by
 obtain ⟨h1, h2, h3⟩ := a7y hc hw
 have hrw : Rc c w.toNat := hr.step hw
 have hl : w.toNat < g.length := by rw [hI.len]; exact h2
 unfold edB
 simp only [gE_ hl]
 have hD : g.getD w.toNat 0 = g[w.toNat] := by rw [gD_, gE_ hl]; rfl
 split
 . rename_i e
   exact ⟨hI, hC, fun hm => ⟨hm, rfl, by rw [hD]; exact e⟩⟩
 . rename_i e
   have ho51 : opAt c (w.toNat : Int) ≠ 51 := by rw [opA h2]; exact h3
   refine ⟨⟨by rw [List.length_set]; exact hI.len, fun X hX j v hv => ?_, fun j hj hn => ?_, ?_⟩, ⟨fun h => (by cases h), fun _ => ?_, ?_⟩, fun h => (by cases h)⟩
   . have hu := hI.up X hX j v hv
     simp only [a6u hl]
     split
     . rename_i ej; subst ej
       rw [BitVec.getLsbD_and, ho X hX v hv, <- hD, hu]; rfl
     . exact hu
   . simp only [a6u hl]
     split
     . rename_i ej; subst ej
       rw [a6y h2 h3] at hn
       exact absurd hrw hn
     . exact hI.no j hj hn
   . simp only [a6u hl]
     split
     . rename_i ej
       have := hI.h0
       rw [<- ej, hD] at this
       rw [this]; simp
     . exact hI.h0
   . have s := (d1x hI.len h2 (x := g[w.toNat] &&& o)).2 ho51
     have := d6t e
     have := hC.2.2
     rw [hD] at s
     simp only
     omega
   . have s := (d1x hI.len h2 (x := g[w.toNat] &&& o)).2 ho51
     have := d6t e
     have := hC.2.2
     rw [hD] at s
     simp only
     omega
theorem e3v {c : List Ins} (hc : CodeOk c) {g0 : List (BitVec N)} {i : Nat} (hr : Rc c i) {o : BitVec N} : ∀ (l : List Int) (g : List (BitVec N)) (m : Bool), Hin N c g -> HC c g0 g m -> (∀ w ∈ l, w ∈ nx c i) -> (∀ w ∈ nx c i, ∀ X, d0r N c X -> ∀ v, X w.toNat v -> o.getLsbD v = true) ->
 Hin N c (edsB o (g, m) l).1 /\ HC c g0 (edsB o (g, m) l).1 (edsB o (g, m) l).2 /\ ((edsB o (g, m) l).2 = false -> m = false /\ (edsB o (g, m) l).1 = g /\ ∀ w ∈ l, (g.getD w.toNat 0) &&& o = g.getD w.toNat 0)
 | [], g, m, hI, hC, _, _ => ⟨hI, hC, fun h => ⟨h, rfl, fun _ h => by cases h⟩⟩
 | w :: l, g, m, hI, hC, hl, ho => by
   obtain ⟨h1, h2, h3⟩ := f8r hc hI hC hr (hl w (by simp)) (ho w (hl w (by simp)))
   have e : edsB o (g, m) (w :: l) = edsB o ((edB o (g, m) w).1, (edB o (g, m) w).2) l := rfl
   rw [e]
   generalize edB o (g, m) w = q at h1 h2 h3
   obtain ⟨h4, h5, h6⟩ := e3v hc hr l q.1 q.2 h1 h2 (fun w hw => hl w (by simp [hw])) ho
   refine ⟨h4, h5, fun hm => ?_⟩
   obtain ⟨a1, a2, a3⟩ := h6 hm
   obtain ⟨b1, b2, b3⟩ := h3 a1
   refine ⟨b1, by rw [a2, b2], fun v hv => ?_⟩
   rcases List.mem_cons.1 hv with rfl | hv
   . exact b3
   . have := a3 v hv
     rwa [b2] at this
theorem f5e {c : List Ins} {g : List (BitVec N)} (hI : Hin N c g) {i : Nat} (hi : i < c.length) (hr : Rc c i) {w : Int} (hw : w ∈ nx c i) {X : Nat -> Nat -> Prop} (hX : d0r N c X) {v : Nat} (hv : X w.toNat v) : (aftB c[i] (usC c i) (g.getD i 0)).getLsbD v = true := by
 have h1 := hX.2.2 i hi hr w hw v hv
 rw [c8y (hX.2.1 _ _ hv).2]
 split
 . rename_i e; rw [if_pos e] at h1; simpa using h1
 . rename_i e; rw [if_neg e] at h1; exact hI.up X hX i v h1
structure Hrun (N : Nat) (c : List Ins) (g0 g : List (BitVec N)) (m : Bool) (D : Nat -> Prop) : Prop where
 inn : Hin N c g
 chg : HC c g0 g m
 ed : m = false -> ∀ i (hi : i < c.length), D i -> Rc c i -> ∀ w ∈ nx c i, (g0.getD w.toNat 0) &&& aftB c[i] (usC c i) (g0.getD i 0) = g0.getD w.toNat 0
def stR (c : List Ins) (s : List (BitVec N) × Bool) (i : Nat) : List (BitVec N) × Bool := match c[i]? with
 | none => s
 | some n => edsB (aftB n (usC c i) (s.1.getD i 0)) s (nx c i)
theorem e2v {c : List Ins} {s : List (BitVec N) × Bool} {i : Nat} (h : i < c.length) : stR c s i = edsB (aftB c[i] (usC c i) (s.1.getD i 0)) s (nx c i) := by
 unfold stR
 rw [gE_ h]
theorem Hrun.step {c : List Ins} (hc : CodeOk c) {g0 g : List (BitVec N)} {m : Bool} {D : Nat -> Prop} (h : Hrun N c g0 g m D) {i : Nat} (hi : i < c.length) (hr : Rc c i) : Hrun N c g0 (stR c (g, m) i).1 (stR c (g, m) i).2 (fun j => j = i \/ D j) /\ ((stR c (g, m) i).2 = false -> m = false /\ (stR c (g, m) i).1 = g) := by
 rw [e2v hi]
 obtain ⟨h1, h2, h3⟩ := e3v hc hr (nx c i) g m h.inn h.chg (fun _ h => h) fun w hw X hX v hv => f5e h.inn hi hr hw hX hv
 refine ⟨⟨h1, h2, fun hm j hj hd hrj w hw => ?_⟩, fun hm => ⟨(h3 hm).1, (h3 hm).2.1⟩⟩
 obtain ⟨a1, a2, a3⟩ := h3 hm
 rcases hd with rfl | hd
 . have e1 : g.getD j 0 = g0.getD j 0 := h.chg.1 a1 j hj (by rw [opA hj]; exact hrj.op hc hj)
   obtain ⟨_, b1, b2⟩ := a7y hc hw
   have e2 : g.getD w.toNat 0 = g0.getD w.toNat 0 := h.chg.1 a1 _ b1 (by rw [opA b1]; exact b2)
   have := a3 w hw
   rwa [e1, e2] at this
 . exact h.ed a1 j hj hd hrj w hw
theorem Hrun.skip {c : List Ins} {g0 g : List (BitVec N)} {m : Bool} {D : Nat -> Prop} (h : Hrun N c g0 g m D) {i : Nat} (hr : ¬ Rc c i) : Hrun N c g0 g m (fun j => j = i \/ D j) :=
 ⟨h.inn, h.chg, fun hm j hj hd hrj w hw => by
  rcases hd with rfl | hd
  . exact absurd hrj hr
  . exact h.ed hm j hj hd hrj w hw⟩
theorem Hrun.case {c : List Ins} (hc : CodeOk c) {g0 g : List (BitVec N)} {m : Bool} {D : Nat -> Prop} (h : Hrun N c g0 g m D) {i : Nat} (hi : i + 1 < c.length) (ho : c[i + 1].op = 51) : Hrun N c g0 (g.set (i + 1) (g.getD i 0)) m (fun j => j = i + 1 \/ D j) := by
 have hl : i + 1 < g.length := by rw [h.inn.len]; exact hi
 have ho' : opAt c ((i + 1 : Nat) : Int) = 51 := by rw [opA hi]; exact ho
 have hs := (d1x h.inn.len hi (x := g.getD i 0)).1 ho'
 refine ⟨⟨by rw [List.length_set]; exact h.inn.len, fun X hX j v hv => ?_, fun j hj hn => ?_, ?_⟩, ⟨fun hm j hj hn => ?_, fun hm => by rw [hs]; exact h.chg.2.1 hm, by rw [hs]; exact h.chg.2.2⟩, fun hm j hj hd hrj w hw => ?_⟩
 . rw [a6u hl]
   split
   . rename_i e; subst e
     exact absurd ho ((hX.2.1 _ _ hv).1.op hc hi)
   . exact h.inn.up X hX j v hv
 . rw [a6u hl]
   split
   . rename_i e; subst e
     rw [hd_s hi ho] at hn
     exact h.inn.no i (by omega) hn
   . exact h.inn.no j hj hn
 . rw [a6u hl, if_neg (by omega)]; exact h.inn.h0
 . rw [a6u hl, if_neg (by rintro rfl; exact hn ho')]
   exact h.chg.1 hm j hj hn
 . rcases hd with rfl | hd
   . exact absurd ho (hrj.op hc hi)
   . exact h.ed hm j hj hd hrj w hw
theorem Hrun.mono {c : List Ins} {g0 g : List (BitVec N)} {m : Bool} {D D' : Nat -> Prop} (h : Hrun N c g0 g m D) (hd : ∀ i, i < c.length -> Rc c i -> D' i -> D i) : Hrun N c g0 g m D' :=
 ⟨h.inn, h.chg, fun hm i hi hD hr => h.ed hm i hi (hd i hi hr hD) hr⟩
theorem Hrun.init {c : List Ins} {g : List (BitVec N)} (h : Hin N c g) : Hrun N c g g false (fun _ => False) := ⟨h, HC.refl c g, fun _ _ _ h => h.elim⟩
theorem Hrun.fin {c : List Ins} (hc : CodeOk c) {g0 g : List (BitVec N)} (h0 : Hin N c g0) (h : Hrun N c g0 g false (fun _ => True)) {i : Nat} (hi : i < c.length) (hr : Rc c i) {v : Nat} (hv : v < N) : (g.getD i 0).getLsbD v = true ↔ Hd N c i v := by
 have same : ∀ j (hj : j < c.length), Rc c j -> g.getD j 0 = g0.getD j 0 := fun j hj hrj => h.chg.1 rfl j hj (by rw [opA hj]; exact hrj.op hc hj)
 constructor
 . intro hg
   refine ⟨fun j v => Rc c j /\ v < N /\ (g0.getD j 0).getLsbD v = true, ⟨fun v hx => ?_, fun j v hx => ⟨hx.1, hx.2.1⟩, fun j hj hrj w hw v hx => ?_⟩, hr, hv, by rw [<- same i hi hr]; exact hg⟩
   . have := hx.2.2
     rw [h0.h0] at this
     simp at this
   . have := e9u (h.ed rfl j hj trivial hrj w hw) hx.2.2
     rw [c8y hx.2.1] at this
     split
     . rename_i e; rw [if_pos e] at this; simpa using this
     . rename_i e; rw [if_neg e] at this; exact ⟨hrj, hx.2.1, this⟩
 . rintro ⟨X, hX, hx⟩
   exact h.inn.up X hX i v hx
open Classical in
noncomputable def g0B (N : Nat) (c : List Ins) : List (BitVec N) := (List.range c.length).map fun i => if Rc c (hd c i) /\ 0 < i then BitVec.allOnes N else 0
theorem a3p (c : List Ins) : (g0B N c).length = c.length := by simp [g0B]
theorem c7u {c : List Ins} {i : Nat} (h : i < c.length) : (Rc c (hd c i) /\ 0 < i -> (g0B N c).getD i 0 = BitVec.allOnes N) /\ (¬ (Rc c (hd c i) /\ 0 < i) -> (g0B N c).getD i 0 = 0) := by
 unfold g0B
 rw [gD_, List.getElem?_map, List.getElem?_range h]
 exact ⟨fun h => by simp only [Option.map_some, gS_, if_pos h], fun h => by simp only [Option.map_some, gS_, if_neg h]⟩
theorem f8g {c : List Ins} (hc : CodeOk c) : Hin N c (g0B N c) := by
 refine ⟨a3p c, fun X hX i v hv => ?_, fun i hi hn => (c7u hi).2 fun h => hn h.1, (c7u hc.ne).2 fun h => by omega⟩
 obtain ⟨hr, hvN⟩ := hX.2.1 i v hv
 have hi := hr.lt hc
 have h0 : 0 < i := by
  rcases Nat.eq_zero_or_pos i with h | h
  . subst h; exact absurd hv (hX.1 v)
  . exact h
 rw [(c7u hi).1 ⟨by rw [a6y hi (hr.op hc hi)]; exact hr, h0⟩]
 simpa using hvN
end Go.Gv
namespace Go.Je
open Go Go.FM Go.Gv Go.Proofs
set_option maxRecDepth 100000
set_option maxHeartbeats 40000000
@[simp] theorem b0s : Program.eqGuardType Tryz.prog (Program.depth Tryz.prog) 68 = false /\ arE Tryz.prog 35 = none /\ arE Tryz.prog 72 = none /\ arE Tryz.prog 79 = none /\ arE Tryz.prog 87 = none /\ arT Tryz.prog 130 = (some (3, 1)) /\ arT Tryz.prog 37 = none /\ arT Tryz.prog 64 = none /\ arT Tryz.prog 70 = none /\ arT Tryz.prog 74 = none /\ arT Tryz.prog 84 = none /\ b7t Tryz.prog 68 = false /\ byT Tryz.prog 37 = (some 24) /\ byT Tryz.prog 4 = (some 1) /\ byT Tryz.prog 65 = (some 8) /\ byT Tryz.prog 68 = (some 8) /\ byT Tryz.prog 87 = (some 40) /\ fldT Tryz.prog 72 0 = (some 0) /\ fldT Tryz.prog 72 1 = (some 4) /\ fldT Tryz.prog 72 2 = (some 5) /\ fldT Tryz.prog 72 3 = (some 9) /\ fldT Tryz.prog 72 4 = (some 10) /\ fldT Tryz.prog 87 0 = (some 0) /\ fldT Tryz.prog 87 1 = (some 1) /\ fldT Tryz.prog 87 2 = (some 2) /\ fnOk Tryz.prog 11 = true /\ fnOk Tryz.prog 121 = true /\ fnOk Tryz.prog 129 = true /\ fnOk Tryz.prog 13 = true /\ fnOk Tryz.prog 130 = true := by and_intros <;> kernel_rfl
@[simp] theorem f0a : fnOk Tryz.prog 131 = true /\ fnOk Tryz.prog 133 = true /\ fnOk Tryz.prog 134 = true /\ fnOk Tryz.prog 135 = true /\ fnOk Tryz.prog 136 = true /\ fnOk Tryz.prog 137 = true /\ fnOk Tryz.prog 138 = true /\ fnOk Tryz.prog 14 = true /\ fnOk Tryz.prog 16 = true /\ fnOk Tryz.prog 163 = true /\ fnOk Tryz.prog 165 = true /\ fnOk Tryz.prog 170 = true /\ fnOk Tryz.prog 18 = true /\ fnOk Tryz.prog 19 = true /\ fnOk Tryz.prog 20 = true /\ fnOk Tryz.prog 3 = true /\ fnOk Tryz.prog 38 = true /\ fnOk Tryz.prog 4 = true /\ fnOk Tryz.prog 40 = true /\ fnOk Tryz.prog 41 = true /\ fnOk Tryz.prog 42 = true /\ fnOk Tryz.prog 43 = true /\ fnOk Tryz.prog 44 = true /\ fnOk Tryz.prog 47 = true /\ fnOk Tryz.prog 48 = true /\ fnOk Tryz.prog 5 = true /\ fnOk Tryz.prog 50 = true /\ fnOk Tryz.prog 51 = true /\ fnOk Tryz.prog 78 = true /\ fnOk Tryz.prog 79 = true := by and_intros <;> kernel_rfl
@[simp] theorem f3z : fnOk Tryz.prog 80 = true /\ fnOk Tryz.prog 81 = true /\ fnOk Tryz.prog 82 = true /\ fnOk Tryz.prog 83 = true /\ fnOk Tryz.prog 84 = true /\ fnOk Tryz.prog 85 = true /\ fnOk Tryz.prog 87 = true /\ hasT Tryz.prog 5 = true /\ intT Tryz.prog 68 = (some Go.IntKind.u64) /\ kdT Tryz.prog 68 = (some (Go.FM.Kd.int Go.IntKind.u64)) /\ ldT Tryz.prog 130 = (some (some 3)) /\ ldT Tryz.prog 174 = (some none) /\ ldT Tryz.prog 37 = (some none) /\ ldT Tryz.prog 65 = (some none) /\ ldT Tryz.prog 68 = (some none) /\ ldT Tryz.prog 70 = (some none) /\ ldT Tryz.prog 84 = (some none) /\ ldT Tryz.prog 87 = (some (some 3)) /\ nilT Tryz.prog 68 = none /\ a5d Tryz.prog 35 = (some ((0, 1) :: ((1, 1) :: ((2, 1) :: ((3, 1) :: []))))) /\ a5d Tryz.prog 72 = (some ((0, 4) :: ((4, 1) :: ((5, 4) :: ((9, 1) :: ((10, 1) :: [])))))) /\ a5d Tryz.prog 79 = (some ((0, 1) :: ((1, 1) :: []))) /\ a5d Tryz.prog 87 = (some ((0, 1) :: ((1, 1) :: ((2, 1) :: [])))) /\ slT Tryz.prog 130 = none /\ slT Tryz.prog 37 = (some (4, 1)) /\ slT Tryz.prog 64 = (some (65, 1)) /\ slT Tryz.prog 70 = (some (68, 1)) /\ slT Tryz.prog 74 = (some (37, 1)) /\ slT Tryz.prog 84 = (some (87, 3)) /\ stT Tryz.prog 68 = none := by and_intros <;> kernel_rfl
@[simp] theorem f3w : strT Tryz.prog 37 = false /\ strT Tryz.prog 5 = false /\ strT Tryz.prog 64 = false /\ strT Tryz.prog 70 = false /\ strT Tryz.prog 74 = false /\ strT Tryz.prog 84 = false /\ szT Tryz.prog 130 = (some 3) /\ szT Tryz.prog 174 = (some 1) /\ szT Tryz.prog 37 = (some 1) /\ szT Tryz.prog 68 = (some 1) /\ szT Tryz.prog 70 = (some 1) /\ szT Tryz.prog 72 = (some 11) /\ szT Tryz.prog 84 = (some 1) /\ szT Tryz.prog 87 = (some 3) /\ a4l Tryz.prog 174 = (some (FV.nilf :: [])) /\ a4l Tryz.prog 37 = (some (FV.nils :: [])) /\ a4l Tryz.prog 65 = (some (FV.nilp :: [])) /\ a4l Tryz.prog 68 = (some ((FV.int Go.IntKind.u64 0) :: [])) /\ a4l Tryz.prog 72 = (some (FV.nils :: (FV.nils :: (FV.nils :: ((FV.int Go.IntKind.i64 0) :: ((FV.int Go.IntKind.i64 0) :: ((FV.str (.mk (.mk []))) :: ((FV.int Go.IntKind.i64 0) :: ((FV.int Go.IntKind.i64 0) :: (FV.nils :: (FV.nils :: (FV.nils :: [])))))))))))) /\ a4l Tryz.prog 84 = (some (FV.nils :: [])) /\ a4l Tryz.prog 87 = (some ((FV.int Go.IntKind.i64 0) :: ((FV.int Go.IntKind.i64 0) :: (FV.nils :: [])))) := by and_intros <;> kernel_rfl
end Go.Je
namespace Go.Gv
open Go Go.FM
set_option maxRecDepth 100000
set_option maxHeartbeats 40000000
variable {N : Nat}
theorem f8s (o : BitVec N) (g : List (BitVec N)) (m : Bool) (w : Int) : edB o (g, m) w = ((edB o (g, false) w).1, (edB o (g, false) w).2 || m) := by
 unfold edB
 simp only
 split
 . simp
 . split
   . simp
   . simp
theorem d6k (o : BitVec N) : ∀ (l : List Int) (g : List (BitVec N)) (m : Bool), edsB o (g, m) l = ((edsB o (g, false) l).1, (edsB o (g, false) l).2 || m)
 | [], g, m => by simp [edsB]
 | w :: l, g, m => by
   have e : ∀ m, edsB o (g, m) (w :: l) = edsB o (edB o (g, m) w) l := fun _ => rfl
   rw [e, e, f8s o g m w, d6k o l _ ((edB o (g, false) w).2 || m)]
   rw [show edB o (g, false) w = ((edB o (g, false) w).1, (edB o (g, false) w).2) from rfl, d6k o l _ (edB o (g, false) w).2]
   simp only [Bool.or_assoc]
theorem d8v (c : List Ins) (g : List (BitVec N)) (m : Bool) (i : Nat) : stR c (g, m) i = ((stR c (g, false) i).1, (stR c (g, false) i).2 || m) := by
 unfold stR
 split
 . simp
 . exact d6k ..
def pcC (c : List Ins) (s : List (BitVec N) × Bool) (i : Nat) : List (BitVec N) × Bool := if opAt c (i : Int) = 51 then (s.1.set i (s.1.getD (i - 1) 0), s.2) else stR c s i
def rndC (c : List Ins) (a : Nat) (g : List (BitVec N)) : Nat -> List (BitVec N) × Bool
 | 0 => (g, false)
 | k + 1 => pcC c (rndC c a g k) (a + k)
structure Crun (N : Nat) (c : List Ins) (g0 g : List (BitVec N)) (m : Bool) (D : Nat -> Prop) : Prop where
 run : Hrun N c g0 g m D
 cs : m = false -> ∀ i (hi : i < c.length), D i -> c[i].op = 51 -> g.getD i 0 = g0.getD (hd c i) 0
theorem Crun.pc {c : List Ins} (hc : CodeOk c) {g0 g : List (BitVec N)} {m m1 : Bool} {D : Nat -> Prop} {i : Nat} (h : Crun N c g0 g (m1 || m) D) (hi : i < c.length) (hr : Rc c (hd c i)) (hp : c[i].op = 51 -> D (i - 1)) : Crun N c g0 (pcC c (g, m1) i).1 ((pcC c (g, m1) i).2 || m) (fun j => j = i \/ D j) := by
 unfold pcC
 rw [opA hi]
 split
 . rename_i e
   obtain ⟨j, rfl⟩ : ∃ j, i = j + 1 := ⟨i - 1, by
    have : i ≠ 0 := fun e0 => by subst e0; exact hc.h0 hi e
    omega⟩
   simp only [Nat.add_sub_cancel] at hp ⊢
   refine ⟨h.run.case hc hi e, fun hm k hk hd hk5 => ?_⟩
   rw [a6u (by rw [h.run.inn.len]; exact hi)]
   split
   . rename_i ek; subst ek
     rw [hd_s hi e]
     by_cases e5 : c[j].op = 51
     . exact h.cs hm j (by omega) (hp e) e5
     . rw [a6y (by omega) e5]
       exact h.run.chg.1 hm j (by omega) (by rw [opA (by omega)]; exact e5)
   . rename_i ek
     exact h.cs hm k hk (hd.resolve_left fun e => ek e.symm) hk5
 . rename_i e
   rw [a6y hi e] at hr
   have e1 : ((stR c (g, m1) i).2 || m) = (stR c (g, m1 || m) i).2 := by
    rw [d8v c g (m1 || m), d8v c g m1]
    simp only [Bool.or_assoc]
   have e2 : (stR c (g, m1) i).1 = (stR c (g, m1 || m) i).1 := by rw [d8v c g (m1 || m), d8v c g m1]
   rw [e1, e2]
   obtain ⟨h1, h2⟩ := h.run.step hc hi hr
   refine ⟨h1, fun hm k hk hd hk5 => ?_⟩
   obtain ⟨a1, a2⟩ := h2 hm
   rw [a2]
   exact h.cs a1 k hk (hd.resolve_left (by rintro rfl; exact e hk5)) hk5
theorem Crun.mono {c : List Ins} {g0 g : List (BitVec N)} {m : Bool} {D D' : Nat -> Prop} (h : Crun N c g0 g m D) (hd : ∀ i, i < c.length -> D' i -> D i) : Crun N c g0 g m D' :=
 ⟨h.run.mono fun i hi _ h => hd i hi h, fun hm i hi hD => h.cs hm i hi (hd i hi hD)⟩
theorem Crun.block {c : List Ins} (hc : CodeOk c) {g0 g : List (BitVec N)} {m : Bool} {D : Nat -> Prop} (h : Crun N c g0 g m D) {j : Nat} (hj : j < (blks c).length) (hr : RB c j) : ∀ k, (blks c)[j].1 + k <= (blks c)[j].2 -> Crun N c g0 (rndC c (blks c)[j].1 g k).1 ((rndC c (blks c)[j].1 g k).2 || m) (fun i => ((blks c)[j].1 <= i /\ i < (blks c)[j].1 + k) \/ D i)
 | 0, _ => h.mono fun i _ hd => hd.elim (fun h => by omega) id
 | k + 1, hk => by
   have ih := Crun.block hc h hj hr k (by omega)
   obtain ⟨B, hB⟩ := a9c hj
   have hi : (blks c)[j].1 + k < c.length := by omega
   have h1 := d7i hc hj (f6z hc hr hj) ((blks c)[j].1 + k) (by omega) (by omega)
   have := Crun.pc hc (i := (blks c)[j].1 + k) (m1 := (rndC c (blks c)[j].1 g k).2) (g := (rndC c (blks c)[j].1 g k).1) ih hi h1 fun e5 => by
    left
    have : k ≠ 0 := fun e0 => by
     subst e0
     have hl : (a3e c)[(blks c)[j].1]? = some true := by
      have := (B.num _ (nr_ _) B.lt).1
      cases hz : (blks c)[j].1 with
      | zero =>
        have := ((a5e hc).2 (.inl rfl) : isM (a3e c) 0).2
        simpa using this
      | succ m =>
        rw [hz] at this
        by_cases hl : (a3e c)[m + 1]? = some true
        . exact hl
        . rw [b9h hl] at this
          have := b3u c m; omega
     exact c4c hc hl (by omega) e5
    omega
   exact this.mono fun i _ hd => hd.elim (fun h => by
    by_cases e : i = (blks c)[j].1 + k
    . exact .inl e
    . exact .inr (.inl (by omega))) fun h => .inr (.inr h)
theorem f3c {c : List Ins} (hc : CodeOk c) : ∀ i, i < c.length -> nmF c (hd c i) = nmF c i
 | 0, _ => rfl
 | i + 1, h => by
   by_cases e : c[i + 1].op = 51
   . rw [hd_s h e, f3c hc i (by omega)]
     have : ¬ (a3e c)[i + 1]? = some true := fun hl => c4c hc hl h e
     unfold nmF
     rw [c1b this]
   . rw [a6y h e]
open Classical in
noncomputable def hdB (N : Nat) (c : List Ins) (i : Nat) : BitVec N := if h : ∃ b : BitVec N, ∀ v, v < N -> (b.getLsbD v = true ↔ Hd N c (hd c i) v) then h.choose else 0
noncomputable def hdG (N : Nat) (c : List Ins) : List (BitVec N) := (List.range c.length).map (hdB N c)
theorem a6f (c : List Ins) : (hdG N c).length = c.length := by simp [hdG]
theorem e3l {c : List Ins} {i : Nat} {b : BitVec N} (h : ∀ v, v < N -> (b.getLsbD v = true ↔ Hd N c (hd c i) v)) : hdB N c i = b := by
 have hh : ∃ b : BitVec N, ∀ v, v < N -> (b.getLsbD v = true ↔ Hd N c (hd c i) v) := ⟨b, h⟩
 unfold hdB
 rw [dif_pos hh]
 exact e4c fun v hv => Bool.eq_iff_iff.2 ((hh.choose_spec v hv).trans (h v hv).symm)
theorem f3d {c : List Ins} {g : List (BitVec N)} (hl : g.length = c.length) (h : ∀ i, i < c.length -> ∀ v, v < N -> ((g.getD i 0).getLsbD v = true ↔ Hd N c (hd c i) v)) : g = hdG N c := by
 refine List.ext_getElem (by rw [a6f, hl]) fun i h1 h2 => ?_
 simp only [hdG, List.getElem_map, List.getElem_range]
 have := h i (by omega)
 rw [gD_, gE_ h1] at this
 exact (e3l this).symm
theorem Hrun.mem {c : List Ins} (hc : CodeOk c) {g0 g : List (BitVec N)} (h0 : Hin N c g0) (h : Hrun N c g0 g false (fun _ => True)) (i : Nat) (hi : i < c.length) (v : Nat) (hv : v < N) : (g.getD (hd c i) 0).getLsbD v = true ↔ Hd N c (hd c i) v := by
 have hl : hd c i < c.length := by have := c0m c i; omega
 by_cases hr : Rc c (hd c i)
 . exact h.fin hc h0 hl hr hv
 . have e : hd c (hd c i) = hd c i := a6y hl (d5a hc i hi hl)
   rw [h.inn.no _ hl (by rw [e]; exact hr)]
   constructor
   . intro h; simp at h
   . intro h; exact absurd ((Hd.post N c).2.1 _ _ h).1 hr
theorem Crun.mem {c : List Ins} (hc : CodeOk c) {g0 g : List (BitVec N)} {D : Nat -> Prop} (h0 : Hin N c g0) (h : Crun N c g0 g false D) (hD : ∀ i, i < c.length -> RB c (nmF c i) -> D i) (i : Nat) (hi : i < c.length) (v : Nat) (hv : v < N) : (g.getD i 0).getLsbD v = true ↔ Hd N c (hd c i) v := by
 have hT : Hrun N c g0 g false (fun _ => True) := h.run.mono fun i hi hr _ => hD i hi (f2a hc hr)
 have hm := hT.mem hc h0 i hi v hv
 have hl : hd c i < c.length := by have := c0m c i; omega
 by_cases e : c[i].op = 51
 . by_cases hr : Rc c (hd c i)
   . have h1 := h.cs rfl i hi (hD i hi (by rw [<- f3c hc i hi]; exact f2a hc hr)) e
     have h2 := h.run.chg.1 rfl (hd c i) hl (by rw [opA hl]; exact d5a hc i hi hl)
     rw [h1, <- h2]; exact hm
   . rw [h.run.inn.no i hi hr]
     constructor
     . intro h; simp at h
     . intro h; exact absurd ((Hd.post N c).2.1 _ _ h).1 hr
 . rw [a6y hi e] at hm ⊢
   exact hm
structure Csw (N : Nat) (c : List Ins) (ord : List Int) (k : Nat) (g0 g : List (BitVec N)) (m : Bool) : Prop where
 run : Crun N c g0 g m (fun i => ∃ q, q < k /\ ∃ hq : q < ord.length, (nmF c i : Int) = ord[q])
theorem Csw.init {c : List Ins} {ord : List Int} {g : List (BitVec N)} (h : Hin N c g) : Csw N c ord 0 g g false := ⟨⟨(Hrun.init h).mono fun i _ _ ⟨q, h, _⟩ => by omega, fun _ i _ ⟨q, h, _⟩ => by omega⟩⟩
theorem Csw.step {c : List Ins} (hc : CodeOk c) {ord : List Int} (ho : e2d c ord) {k : Nat} (hk : k < ord.length) {g0 g : List (BitVec N)} {m : Bool} (h : Csw N c ord k g0 g m) : ∃ j : Nat, ord[k] = (j : Int) /\ ∃ hj : j < (blks c).length, (blks c)[j].1 < (blks c)[j].2 /\ (blks c)[j].2 <= c.length /\
 Csw N c ord (k + 1) g0 (rndC c (blks c)[j].1 g ((blks c)[j].2 - (blks c)[j].1)).1 ((rndC c (blks c)[j].1 g ((blks c)[j].2 - (blks c)[j].1)).2 || m) := by
 obtain ⟨h0, hR⟩ := (ho _).1 (gm_ hk)
 have hj := e6g hc hR
 obtain ⟨B, hB⟩ := a9c hj
 have hlt := B.lt
 refine ⟨ord[k].toNat, by omega, hj, hlt, hB, ⟨?_⟩⟩
 have := Crun.block hc h.run hj hR ((blks c)[ord[k].toNat].2 - (blks c)[ord[k].toNat].1) (by omega)
 refine this.mono ?_
 rintro i hi ⟨q, h1, h2, h3⟩
 by_cases e : q = k
 . subst e
   left
   obtain ⟨g1, g2, g3⟩ := b7e hc hi
   have e2 : ord[q].toNat = nmF c i := by omega
   simp only [e2]
   omega
 . exact .inr ⟨q, by omega, h2, h3⟩
def muG (c : List Ins) (g : List (BitVec N)) (m : Bool) : Nat := if m then szG c g + 1 else 0
theorem Csw.mu {c : List Ins} {ord : List Int} {k : Nat} {g0 g : List (BitVec N)} {m : Bool} (h : Csw N c ord k g0 g m) : muG c g m < muG c g0 true := by
 unfold muG
 cases m
 . simp
 . have := h.run.run.chg.2.1 rfl
   simp; omega
theorem Csw.fin {c : List Ins} (hc : CodeOk c) {ord : List Int} (ho : e2d c ord) {g0 g : List (BitVec N)} (h0 : Hin N c g0) (h : Csw N c ord ord.length g0 g false) : g = hdG N c /\ ∀ i, i < c.length -> ∀ v, v < N -> ((g.getD i 0).getLsbD v = true ↔ Hd N c (hd c i) v) := by
 have := h.run.mem hc h0 fun i hi hR => by
  have hm : (nmF c i : Int) ∈ ord := (ho _).2 ⟨by omega, by simpa using hR⟩
  obtain ⟨q, hq, e⟩ := List.mem_iff_getElem.1 hm
  exact ⟨q, hq, hq, e.symm⟩
 exact ⟨f3d h.run.run.inn.len this, this⟩
theorem e5q {l : List Int} {v : Int} : v ∈ srt l ↔ v ∈ l := (List.mergeSort_perm l _).mem_iff
theorem f0y (l : List Int) : (srt l).Pairwise (· <= ·) := by
 have := List.pairwise_mergeSort (le := fun a b : Int => decide (a <= b)) (fun a b c h1 h2 => by simp at *; omega) (fun a b => by simp; omega) l
 exact this.imp fun h => by simpa using h
theorem b6b {d : Array Int} {j : Nat} : Lib.keeps d j = true ↔ j = 0 \/ d[j]! ≠ d[j - 1]! := by
 unfold Lib.keeps
 simp
theorem c4w {l : List Int} (h : l.Pairwise (· <= ·)) : inc (Lib.compact l) := by
 unfold inc Lib.compact Lib.compactUpTo
 rw [List.pairwise_map]
 have hr : ((List.range l.length).filter (Lib.keeps l.toArray)).Pairwise (· < ·) := List.Pairwise.filter _ List.pairwise_lt_range
 refine List.Pairwise.imp_of_mem (fun {i j} hi hj hij => ?_) hr
 rw [List.mem_filter, List.mem_range] at hi hj
 have hk := (b6b.1 hj.2).resolve_left (by omega)
 have hp := List.pairwise_iff_getElem.1 h
 have e : ∀ k (hk : k < l.length), l.toArray[k]! = l[k] := fun k hk => by simp [hk]
 rw [e j hj.1, e (j - 1) (by omega)] at hk
 rw [e i hi.1, e j hj.1]
 have h1 := hp (j - 1) j (by omega) hj.1 (by omega)
 by_cases e2 : i = j - 1
 . subst e2; omega
 . have h2 := hp i (j - 1) hi.1 (by omega) (by omega)
   omega
theorem c4u {l : List Int} {v : Int} : v ∈ Lib.compact l ↔ v ∈ l := by
 unfold Lib.compact Lib.compactUpTo
 have e : ∀ k (hk : k < l.length), l.toArray[k]! = l[k] := fun k hk => by simp [hk]
 simp only [List.mem_map, List.mem_filter, List.mem_range]
 constructor
 . rintro ⟨k, ⟨hk, _⟩, rfl⟩
   rw [e k hk]; exact gm_ hk
 . intro h
   obtain ⟨k, hk, rfl⟩ := List.mem_iff_getElem.1 h
   induction k with
   | zero => exact ⟨0, ⟨hk, b6b.2 (.inl rfl)⟩, e 0 hk⟩
   | succ k ih =>
     by_cases e2 : l[k + 1] = l[k]
     . obtain ⟨q, h1, h2⟩ := ih (by omega) (gm_ (by omega))
       exact ⟨q, h1, by rw [h2, e2]⟩
     . refine ⟨k + 1, ⟨hk, b6b.2 (.inr ?_)⟩, e _ hk⟩
       rw [e (k + 1) hk, Nat.add_sub_cancel, e k (by omega)]
       exact e2
theorem c2s : ∀ (s a : List Int), inc a -> inc (s.foldl a1x a)
 | [], _, h => h
 | x :: s, a, h => c2s s _ (c7n h)
theorem e7p : inc [] := List.Pairwise.nil
theorem b5m (s : List Int) : Lib.compact (srt s) = s.foldl a1x [] :=
 c0j (c4w (f0y s)) (c2s s [] e7p) fun v => by
  rw [c4u, e5q, b2i]; simp
end Go.Gv
namespace Go.Je
open Go Go.RowKit Go.Proofs Go.Shelf Go.Sort Go.FM
set_option maxHeartbeats 40000000
set_option maxRecDepth 100000
theorem d1z (l : List ByteArray) : (strs l).flatten = l.map FV.str := by
 induction l with
 | nil => rfl
 | cons x l ih => simp only [strs, List.map_cons, List.flatten_cons, b8a] at ih ⊢; rw [ih]; rfl
theorem c6k {w : World} {F : Nat -> Prop} {U : FM.Loc -> Prop} {m : FM.Loc -> Nat × Nat} : ∀ (l : List ByteArray) (vs : List Value), RFs w F U m (l.map FV.str) vs -> vs = l.map Value.string
 | [], _, h => by cases h; rfl
 | x :: l, _, h => by
   cases h with
   | cons _ v _ vs h1 h2 =>
   cases h1
   rw [c6k l vs h2]; rfl
theorem c36 (l : List ByteArray) (hl : l.length <= 2000000) : PC Tryz.prog Gl 77 [.list 1 (strs l)] (.bool (Gv.uniq (l.map (·.data.toList)))) := by
 refine b5f fun w F m vs hF hG hv hH => ?_
 cases hv with
 | cons _ v _ vs h1 h2 =>
 cases h2
 cases h1 with
 | list sz xs A cap vs hl' hc hm h =>
 rw [d1z] at h
 have hvs := c6k l vs h
 subst hvs
 rw [a2e]
 have fin : ∀ (e : Ending) (w' : World), (e = .returned (.bool (Gv.uniq (l.map (·.data.toList)))) /\ RowKit.Below w.heap.size w w') -> ∃ v, e = .returned v /\ RowKit.Below w.heap.size w w' /\ RF w' F (fun l => noH l ≠ none) m (.bool (Gv.uniq (l.map (·.data.toList)))) v := by
  rintro e w' ⟨rfl, hb⟩
  exact ⟨_, rfl, hb, .bool _⟩
 cases hA : A with
 | none =>
   cases l with
   | cons x l => obtain ⟨a, ha, _⟩ := hm (by simp [strs]); rw [hA] at ha; cases ha
   | nil =>
     refine (c9l cap w).mono ?_
     rintro e w' ⟨rfl, rfl⟩
     exact fin _ _ ⟨rfl, Below.refl _ _⟩
 | some a =>
   by_cases hn : l = []
   . subst hn
     refine (b5i (some a) 0 cap [] w (by omega) ((Any.slices_Clone_string_zero uL1 a cap w).mono ?_)).mono ?_
     . rintro e w' ⟨v', rfl, h1, h2, h3⟩; exact ⟨v', rfl, h1, h2, h3⟩
     . exact fin
   . obtain ⟨a', ha, hF', hcell⟩ := hm (by cases l with | nil => exact absurd rfl hn | cons x l => simp [strs])
     rw [hA] at ha
     cases ha
     have hs : a.spot = none := by
      obtain ⟨v, hv⟩ : ∃ v, (l.map Value.string)[0]? = some v := ⟨_, gE_ (by cases l with | nil => exact absurd rfl hn | cons x l => simp)⟩
      have := hcell 0 v hv
      simp only [Addr.add, if_true] at this
      unfold World.cell? at this
      split at this
      . split at this
        . cases this
        . rename_i h; simpa using h
      . cases this
     obtain ⟨b, off, sp⟩ := a
     simp only at hs
     subst hs
     have hcl := Any.slices_Clone_string uL1 b off l.length cap l w (nr_ _) (by omega) (fun j hj => by
      have := hcell j (.string l[j]) (by rw [List.getElem?_map, gE_ hj]; rfl)
      rw [add0] at this
      rw [this, gD_, gE_ hj]; rfl)
     refine (b5i (some ⟨b, off, none⟩) l.length cap (l.map (·.data.toList)) w (by omega) (hcl.mono ?_)).mono fin
     rintro e w' ⟨v', rfl, h1, h2, h3⟩
     exact ⟨v', rfl, by rw [Lib.map_encStr]; rw [List.take_length] at h1; exact h1, h2, h3⟩
end Go.Je
namespace Go.Gv
open Go Go.FM
set_option maxRecDepth 100000
set_option maxHeartbeats 40000000
def a6h (s : BitVec 64) : List Int := ((List.range 64).filter fun v => s.getLsbD v).map fun (v : Nat) => (v : Int)
theorem e9k : a6h 0 = [] := by simp [a6h]
theorem d3u {s : BitVec 64} {v : Int} : v ∈ a6h s ↔ 0 <= v /\ s.getLsbD v.toNat = true := by
 simp only [a6h, List.mem_map, List.mem_filter, List.mem_range]
 constructor
 . rintro ⟨k, ⟨_, h⟩, rfl⟩
   exact ⟨by omega, by simpa using h⟩
 . rintro ⟨h, h1⟩
   exact ⟨v.toNat, ⟨BitVec.lt_of_getLsbD h1, h1⟩, by omega⟩
theorem c3e (s : BitVec 64) : (a6h s).length <= 64 := by
 unfold a6h
 rw [List.length_map]
 exact Nat.le_trans (List.length_filter_le _ _) (by simp)
theorem c4a {t m j : Nat} : (2 ^ t * (2 * m + 1)).testBit j = if j < t then false else (2 * m + 1).testBit (j - t) := by
 have := Nat.testBit_two_pow_mul_add (2 * m + 1) (b := 0) (i := t) (Nat.two_pow_pos t) j
 simpa using this
theorem e0b {t m j : Nat} : (2 ^ t * (2 * m + 1) - 1).testBit j = if j < t then true else (2 * m).testBit (j - t) := by
 have hp := Nat.two_pow_pos t
 have e : 2 ^ t * (2 * m + 1) - 1 = 2 ^ t * (2 * m) + (2 ^ t - 1) := by
  rw [Nat.mul_add, Nat.mul_one]; omega
 rw [e, Nat.testBit_two_pow_mul_add (2 * m) (by omega) j]
 split
 . rw [Nat.testBit_two_pow_sub_one]; simp [*]
 . rfl
theorem d3n {m j : Nat} : (2 * m + 1).testBit j = if j = 0 then true else (2 * m).testBit j := by
 cases j with
 | zero => simp
 | succ j => simp [Nat.testBit_succ]; congr 1; omega
theorem e7g {t m j : Nat} : ((2 ^ t * (2 * m + 1)) &&& (2 ^ t * (2 * m + 1) - 1)).testBit j = (decide (j ≠ t) && (2 ^ t * (2 * m + 1)).testBit j) := by
 rw [Nat.testBit_and, c4a, e0b]
 by_cases h : j < t
 . simp [h]
 . simp only [if_neg h]
   rw [d3n]
   by_cases e : j = t
   . subst e; simp
   . have : ¬ j - t = 0 := by omega
     simp [this, e]
theorem e7f {s : BitVec 64} (h : s ≠ 0) : ∃ m, s.toNat = 2 ^ Lib.ctz 64 s.toNat * (2 * m + 1) /\ Lib.ctz 64 s.toNat < 64 := by
 have h0 : s.toNat ≠ 0 := fun e => h (BitVec.eq_of_toNat_eq (by simpa using e))
 unfold Lib.ctz
 rw [if_neg h0]
 exact Lib.ctzFrom_spec 64 s.toNat (by omega) s.isLt
def lowT (s : BitVec 64) (t : Nat) : Prop := t < 64 /\ s.getLsbD t = true /\ ∀ j, j < t -> s.getLsbD j = false
theorem d7j {s r : BitVec 64} {t : Nat} (h : lowT s t) (hr : ∀ j, j < 64 -> r.getLsbD j = (decide (j ≠ t) && s.getLsbD j)) : a6h s = (t : Int) :: a6h r := by
 obtain ⟨h1, h2, h3⟩ := h
 have e : List.range 64 = List.range t ++ t :: (List.range' (t + 1) (63 - t)) := by
  have h5 := List.range'_append_1 (s := 0) (m := t) (n := 63 - t + 1)
  rw [show t + (63 - t + 1) = 64 by omega, Nat.zero_add, List.range'_succ] at h5
  rw [List.range_eq_range', List.range_eq_range', h5]
 unfold a6h
 have f1 : (List.range t).filter (fun v => s.getLsbD v) = [] := by
  rw [List.filter_eq_nil_iff]; intro v hv; rw [h3 v (List.mem_range.1 hv)]; simp
 have f2 : (List.range t).filter (fun v => r.getLsbD v) = [] := by
  rw [List.filter_eq_nil_iff]; intro v hv
  have := List.mem_range.1 hv
  rw [hr v (by omega), h3 v this]; simp
 have f3 : (List.range' (t + 1) (63 - t)).filter (fun v => s.getLsbD v) = (List.range' (t + 1) (63 - t)).filter (fun v => r.getLsbD v) := by
  refine List.filter_congr fun v hv => ?_
  have := List.mem_range'_1.1 hv
  rw [hr v (by omega)]
  have : v ≠ t := by omega
  simp [this]
 rw [e, fA_, fA_, f1, f2, List.nil_append, List.nil_append, List.filter_cons_of_pos (by simpa using h2), List.filter_cons_of_neg (by rw [hr t h1]; simp), f3]
 rfl
theorem b8w {s : BitVec 64} (h : s ≠ 0) : a6h s = (Lib.ctz 64 s.toNat : Int) :: a6h (s &&& (s - 1)) := by
 obtain ⟨m, e, ht⟩ := e7f h
 generalize Lib.ctz 64 s.toNat = t at e ht
 have hs : ∀ j, s.getLsbD j = (2 ^ t * (2 * m + 1)).testBit j := fun j => by rw [BitVec.getLsbD, e]
 have h0 : s.toNat ≠ 0 := fun e => h (BitVec.eq_of_toNat_eq (by simpa using e))
 have hsub : (s - 1).toNat = s.toNat - 1 := by
  rw [BitVec.toNat_sub]
  have := s.isLt
  simp; omega
 refine d7j ⟨ht, ?_, fun j hj => ?_⟩ fun j hj => ?_
 . rw [hs, c4a, if_neg (by omega), Nat.sub_self, d3n]; rfl
 . rw [hs, c4a, if_pos hj]
 . rw [hs, <- e7g, BitVec.getLsbD, BitVec.toNat_and, hsub, e]
theorem f2l {s : BitVec 64} (h : s ≠ 0) : s &&& (s - 1) ≠ s /\ (a6h (s &&& (s - 1))).length < (a6h s).length := by
 have e := b8w h
 refine ⟨fun h2 => ?_, by rw [e]; simp⟩
 rw [h2] at e
 have := congrArg List.length e
 simp at this
def badI (x : Pts) (c : List Ins) (f i : Nat) : Prop := ∃ hi : i < c.length, lkO c[i].op = true /\ usC c i < 0 /\ (0 : Int) ∈ rg x f c[i].a
noncomputable def dsI (c : List Ins) (i : Nat) (s : BitVec 64) : BitVec 64 := match c[i]? with
 | none => s
 | some n => if n.op = 40 /\ 0 <= usC c i /\ ((hdG 64 c).getD i 0).getLsbD (usC c i).toNat = false then s &&& ~~~BitVec.twoPow 64 (usC c i).toNat else s
noncomputable def dsK (c : List Ins) (s : BitVec 64) : Nat -> BitVec 64
 | 0 => s
 | k + 1 => dsI c k (dsK c s k)
noncomputable def dsF (p : Pg) : Nat -> BitVec 64
 | 0 => BitVec.allOnes 64
 | k + 1 => match p.funcs[k]? with
   | none => dsF p k
   | some f => dsK f.code (dsF p k) f.code.length
def BadP (p : Pg) (x : Pts) : Prop := ∃ f, ∃ hf : f < p.funcs.length, ∃ i, badI x p.funcs[f].code f i
open Classical in
noncomputable def b0y (p : Pg) (x : Pts) : BitVec 64 := if BadP p x then 0 else dsF p p.funcs.length
theorem f4f {p : Pg} {k : Nat} (h : k < p.funcs.length) : dsF p (k + 1) = dsK p.funcs[k].code (dsF p k) p.funcs[k].code.length := by
 rw [dsF, gE_ h]
theorem e3x {c : List Ins} {i : Nat} (h : i < c.length) (s : BitVec 64) : dsI c i s = if c[i].op = 40 /\ 0 <= usC c i /\ ((hdG 64 c).getD i 0).getLsbD (usC c i).toNat = false then s &&& ~~~BitVec.twoPow 64 (usC c i).toNat else s := by
 unfold dsI
 rw [gE_ h]
def dsOk (c : List Ins) (i v : Nat) : Prop := ∀ hi : i < c.length, c[i].op = 40 -> usC c i = (v : Int) -> ((hdG 64 c).getD i 0).getLsbD v = true
theorem e8l {c : List Ins} {i v : Nat} (hv : v < 64) {s : BitVec 64} : (dsI c i s).getLsbD v = true ↔ s.getLsbD v = true /\ dsOk c i v := by
 by_cases hi : i < c.length
 . rw [e3x hi]
   split
   . rename_i h
     rw [BitVec.getLsbD_and, BitVec.getLsbD_not, BitVec.getLsbD_twoPow]
     by_cases e : usC c i = (v : Int)
     . simp only [e, tN_] at h ⊢
       simp [hv]
       intro _ hd
       have := hd hi h.1 e
       rw [h.2.2] at this; cases this
     . have : ¬ (usC c i).toNat = v := by omega
       simp [hv, this]
       exact fun _ _ _ e2 => absurd e2 e
   . rename_i h
     refine ⟨fun hs => ⟨hs, fun _ h1 h2 => ?_⟩, fun h => h.1⟩
     cases hb : ((hdG 64 c).getD i 0).getLsbD v with
     | true => rfl
     | false => exact absurd ⟨h1, by omega, by rw [h2]; exact hb⟩ h
 . have e : dsI c i s = s := by unfold dsI; rw [gn_ (by omega)]
   rw [e]
   exact ⟨fun h => ⟨h, fun hi' => absurd hi' hi⟩, fun h => h.1⟩
theorem d6l {c : List Ins} {v : Nat} (hv : v < 64) {s : BitVec 64} : ∀ k, (dsK c s k).getLsbD v = true ↔ s.getLsbD v = true /\ ∀ i, i < k -> dsOk c i v
 | 0 => ⟨fun h => ⟨h, fun i hi => by omega⟩, fun h => h.1⟩
 | k + 1 => by
   rw [dsK, e8l hv, d6l hv k]
   refine ⟨fun ⟨⟨h1, h2⟩, h3⟩ => ⟨h1, fun i hi => ?_⟩, fun ⟨h1, h2⟩ => ⟨⟨h1, fun i hi => h2 i (by omega)⟩, h2 k (by omega)⟩⟩
   by_cases e : i = k
   . subst e; exact h3
   . exact h2 i (by omega)
theorem d6m {p : Pg} {v : Nat} (hv : v < 64) : ∀ k, k <= p.funcs.length -> ((dsF p k).getLsbD v = true ↔ ∀ f, ∀ hf : f < p.funcs.length, f < k -> ∀ i, dsOk p.funcs[f].code i v)
 | 0, _ => by
   constructor
   . intro _ f _ h; omega
   . intro _; rw [dsF, BitVec.getLsbD_allOnes]; simpa using hv
 | k + 1, hk => by
   rw [f4f (by omega), d6l hv, d6m hv k (by omega)]
   refine ⟨fun ⟨h1, h2⟩ f hf hk2 i => ?_, fun h => ⟨fun f hf h2 i => h f hf (by omega) i, fun i _ => h k (by omega) (by omega) i⟩⟩
   by_cases e : f = k
   . subst e
     intro hi
     exact h2 i hi hi
   . exact h1 f hf (by omega) i
theorem e1u {p : Pg} {x : Pts} {v : Nat} (hv : v < 64) : (b0y p x).getLsbD v = true ↔ ¬ BadP p x /\ ∀ f, ∀ hf : f < p.funcs.length, ∀ i, dsOk p.funcs[f].code i v := by
 unfold b0y
 split
 . rename_i h
   exact ⟨fun h => by simp at h, fun h2 => absurd h h2.1⟩
 . rename_i h
   rw [d6m hv _ (nr_ _)]
   exact ⟨fun h1 => ⟨h, fun f hf => h1 f hf hf⟩, fun h1 f hf _ => h1.2 f hf⟩
theorem f0m {p : Pg} (hp : VOk p) (hg : p.globals.length <= 64) {f : FnD} (hf : f ∈ p.funcs) (i : Nat) : usC f.code i < 64 := by
 have := (f0l hp hf i).2
 omega
theorem e1t {X : Pts} {c : List Ins} {k i : Nat} (hi : i < c.length) {S S' y t : BitVec 64} {u : Int} (hu : usC c i = u) (hu64 : u < 64) {g : BitVec 64} (hg : (hdG 64 c).getD i 0 = g) {zn : Nat} (ht : BitVec.twoPow 64 u.toNat = t) (hz : (g &&& t).toNat = zn) (hy : S &&& ~~~t = y) (hK : S' = dsI c i S) {r : List Int} (hr : rg X k c[i].a = r) :
 (¬ lkO c[i].op = true /\ S' = S /\ ¬ badI X c k i) \/ (lkO c[i].op = true /\ 0 <= u /\ c[i].op = 40 /\ zn = 0 /\ S' = y /\ ¬ badI X c k i) \/ (lkO c[i].op = true /\ 0 <= u /\ c[i].op = 40 /\ ¬ zn = 0 /\ S' = S /\ ¬ badI X c k i) \/
  (lkO c[i].op = true /\ 0 <= u /\ ¬ c[i].op = 40 /\ S' = S /\ ¬ badI X c k i) \/ (lkO c[i].op = true /\ ¬ 0 <= u /\ (0 : Int) ∉ r /\ S' = S /\ ¬ badI X c k i) \/ (lkO c[i].op = true /\ ¬ 0 <= u /\ (0 : Int) ∈ r /\ badI X c k i) := by
 rw [e3x hi, hu, hg, ht, hy] at hK
 have hbad : badI X c k i ↔ lkO c[i].op = true /\ u < 0 /\ (0 : Int) ∈ r := by
  unfold badI
  rw [<- hr, <- hu]
  exact ⟨fun ⟨_, h⟩ => h, fun h => ⟨hi, h⟩⟩
 have hbit : 0 <= u -> (zn = 0 ↔ g.getLsbD u.toNat = false) := fun h0 => by
  rw [<- hz, <- ht]
  constructor
  . intro h
    have h2 : g &&& BitVec.twoPow 64 u.toNat = 0 := BitVec.eq_of_toNat_eq (by simpa using h)
    have := congrArg (fun b => b.getLsbD u.toNat) h2
    have hv : u.toNat < 64 := by omega
    simpa [BitVec.getLsbD_and, BitVec.getLsbD_twoPow, hv] using this
  . intro h
    have h2 : g &&& BitVec.twoPow 64 u.toNat = 0 := BitVec.eq_of_getLsbD_eq fun j hj => by
     rw [BitVec.getLsbD_and, BitVec.getLsbD_twoPow]
     by_cases e : u.toNat = j
     . subst e; simp [h]
     . simp [e]
    rw [h2]; rfl
 by_cases hl : lkO c[i].op = true
 . by_cases h0 : 0 <= u
   . have nb : ¬ badI X c k i := fun h => by have := (hbad.1 h).2.1; omega
     by_cases h4 : c[i].op = 40
     . by_cases hz0 : zn = 0
       . rw [if_pos ⟨h4, h0, (hbit h0).1 hz0⟩] at hK
         exact .inr (.inl ⟨hl, h0, h4, hz0, hK, nb⟩)
       . rw [if_neg fun h => hz0 ((hbit h0).2 h.2.2)] at hK
         exact .inr (.inr (.inl ⟨hl, h0, h4, hz0, hK, nb⟩))
     . rw [if_neg fun h => h4 h.1] at hK
       exact .inr (.inr (.inr (.inl ⟨hl, h0, h4, hK, nb⟩)))
   . rw [if_neg fun h => h0 h.2.1] at hK
     by_cases hm : (0 : Int) ∈ r
     . exact .inr (.inr (.inr (.inr (.inr ⟨hl, h0, hm, hbad.2 ⟨hl, by omega, hm⟩⟩))))
     . exact .inr (.inr (.inr (.inr (.inl ⟨hl, h0, hm, hK, fun h => hm (hbad.1 h).2.2⟩))))
 . rw [if_neg fun h => hl (by simp [lkO, h.1])] at hK
   exact .inl ⟨hl, hK, fun h => hl (hbad.1 h).1⟩
section
variable {p : Pg} {nm : ByteArray} {k : Int}
end
end Go.Gv
namespace Go.Je
open Go Go.FM Go.Gv Go.Proofs
set_option maxRecDepth 100000
set_option maxHeartbeats 40000000
end Go.Je
