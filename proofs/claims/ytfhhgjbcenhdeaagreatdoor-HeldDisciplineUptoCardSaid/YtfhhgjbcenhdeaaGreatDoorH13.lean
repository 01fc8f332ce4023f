/- Parts of the proof. -/
import Derived.Test.YtfhhgjbcenhdeaaGreatDoorH11
import Derived.Lib.SlicesCompact
import Derived.Lib.TrailingZeros
set_option linter.unusedSimpArgs false
set_option linter.unusedVariables false
namespace Go.Je
open Go Go.FM Go.Gv Go.Proofs
set_option maxRecDepth 100000
set_option maxHeartbeats 40000000
theorem c66 (p : Pg) (f : FnD) (x : Ins) (hc : f.code.length <= 2000000) (hf : p.funcs.length <= 2000000) (hg : p.globals.length <= 2000000) (hl : p.layouts.length <= 2000000) : PC Tryz.prog Gl 86 [.agg [.list 4 (fns p.funcs), .list 2 (gbs p.globals), .list 1 (lays p.layouts), .int .i64 p.main], .agg [.str f.name, .int .i64 f.params, .int .i64 f.regs, .list 5 (inss f.code)], .agg [.int .i64 x.op, .int .i64 x.a, .int .i64 x.b, .int .i64 x.c, .int .i64 x.d]] (.bool (a7l p f x)) := by
 by_cases ho : 1 <= x.op /\ x.op <= 52
 obtain ⟨⟨i1, i2, i3⟩, ⟨j1, j2, j3⟩, j4⟩ := c9z ho
 all_goals
  refine a9p (res := [.tmp 6]) 8 89 [] (fun d ix => d :: ix) (fn := Tryz.f86) (by kernel_rfl) (by rfl) (by rfl) (by rfl) (by simp) (by decide) ?_
  repeat' first
   | with_reducible first | refine stp ?_ | refine stpK ?_; intro K hK | refine stpC ?_; intro T E hT hE | refine stp2 ?_ ?_ <;> intro h | refine a3m (id := 2) 40 a1v (by kernel_rfl) fun K hK => ?_ | refine a0x rfl ?_ | refine a2n (c7p _ ho) (by simp [nls, nl, *, a0b, a0d, a0g, a0a, a0c]) ?_ | refine hpc (c7p _ ho) (by simp [nls, nl, *, a0b, a0d, a0g, a0a, a0c]) ?_ | refine a2n (d5k _ ho) (by simp [nls, nl, *, a0b, a0d, a0g, a0a, a0c]) ?_ | refine hpc (d5k _ ho) (by simp [nls, nl, *, a0b, a0d, a0g, a0a, a0c]) ?_ | refine a2n (c114 p f x _ _ hc hf hg hl) (by simp [nls, nl, *, a0b, a0d, a0g, a0a, a0c]) ?_ | refine hpc (c114 p f x _ _ hc hf hg hl) (by simp [nls, nl, *, a0b, a0d, a0g, a0a, a0c]) ?_ | refine a1a rfl (by decide) a0z ?_ | refine a1a rfl (by decide) (a0y (by simp [upd, noH, ext, a5r, a4l, *])) ?_ | refine a2i (by decide) (by kernel_rfl) ?_ | refine a1j (by decide) ?_ | refine Kont.go hK ?_; clear hK K | refine KT.go hT ?_; clear hT hE T E | refine KT.go hE ?_; clear hT hE T E
   | simp [*, -List.all_flatten, -List.all_eq_true, DEFO, -Bool.decide_and, eqV, a0e, a0f, a0j, a0p, a0i, a0c, a0b, a0d, a0g, a0a, a5t, a3i, a3t, a9t, a6g, a2r, Ins.row, FnD.row, Gb.row, a4h, Int.le_sub_one_iff]
  all_goals first
   | (simp_all [a7l]; done)
   | (rw [<- Bool.not_eq_true]; intro hh; simp [a7l, *] at hh <;> omega)
   | trace_state
theorem c66e (p : Pg) (f : FnD) (x : Ins) (o : Int) (ho : x.op = o) (hc : f.code.length <= 2000000) (hf : p.funcs.length <= 2000000) (hg : p.globals.length <= 2000000) (hl : p.layouts.length <= 2000000) : PC Tryz.prog Gl 86 [.agg [.list 4 (fns p.funcs), .list 2 (gbs p.globals), .list 1 (lays p.layouts), .int .i64 p.main], .agg [.str f.name, .int .i64 f.params, .int .i64 f.regs, .list 5 (inss f.code)], .agg [.int .i64 o, .int .i64 x.a, .int .i64 x.b, .int .i64 x.c, .int .i64 x.d]] (.bool (a7l p f x)) := by subst ho; exact c66 p f x hc hf hg hl
theorem c38 (p : Pg) (f : FnD) (hc : f.code.length <= 2000000) (hf : p.funcs.length <= 2000000) (hg : p.globals.length <= 2000000) (hl : p.layouts.length <= 2000000) : PC Tryz.prog Gl 46 [.agg [.list 4 (fns p.funcs), .list 2 (gbs p.globals), .list 1 (lays p.layouts), .int .i64 p.main], .agg [.str f.name, .int .i64 f.params, .int .i64 f.regs, .list 5 (inss f.code)]] (.bool (fnR p f)) := by
 have w1 := wl f.code.length (by omega)
 rcases d5h f.name with ⟨m1, m2⟩ | ⟨m1, m2⟩
 all_goals rcases c7k f.code with hn | ⟨hn, n1, z, n2, n3, n4⟩
 all_goals
  refine a9p (res := [.tmp 4]) 9 90 [] (fun d ix => d :: ix) (fn := Tryz.f46) (by kernel_rfl) (by rfl) (by rfl) (by rfl) (by simp) (by decide) ?_
  repeat' first
   | ((with_reducible refine a2c ?_); refine a8n (fun y : {y : Nat × Int // y.1 <= f.code.length /\ a9j p f f.code 0 = a9j p f (f.code.drop y.1) y.2} => (⟨[.agg [.list 4 (fns p.funcs), .list 2 (gbs p.globals), .list 1 (lays p.layouts), .int .i64 p.main], .agg [.str f.name, .int .i64 f.params, .int .i64 f.regs, .list 5 (inss f.code)], .ptr [2] 4 0 0, .ptr [3] 4 0 0, .bool false, .undef, .int .i64 y.1.2, .int .i64 (y.1.1 : Int), .undef], [], hpL [([2], .cells 26 4 [[.list 4 (fns p.funcs), .list 2 (gbs p.globals), .list 1 (lays p.layouts), .int .i64 p.main]]), ([3], .cells 35 4 [[.str f.name, .int .i64 f.params, .int .i64 f.regs, .list 5 (inss f.code)]])], []⟩ : Fs)) (fun y => f.code.length - y.1.1) ⟨(0, 0), by simp⟩ (a4m [] (fun _ h => h) (by rfl) ?_ ?_ ?_) ?_; (focus (simp [*, SIMF, a0c, a0e, a0m, a1d, a0u, a0b, a0f, a0o, a1f, a1g, a0d, a0j, a0r, a1q, a1r, a0g, a0p, a0s, a1o, a1p, a0a, a0i, a0l, a1e, a0w, List.take_of_length_le, List.filter_append, *]; done)); (focus (simp [*, SIMF, a0c, a0e, a0m, a1d, a0u, a0b, a0f, a0o, a1f, a1g, a0d, a0j, a0r, a1q, a1r, a0g, a0p, a0s, a1o, a1p, a0a, a0i, a0l, a1e, a0w, List.take_of_length_le, List.filter_append]; done)); (focus (simp [*, SIMF, a0c, a0e, a0m, a1d, a0u, a0b, a0f, a0o, a1f, a1g, a0d, a0j, a0r, a1q, a1r, a0g, a0p, a0s, a1o, a1p, a0a, a0i, a0l, a1e, a0w, List.take_of_length_le, List.filter_append, *]; done)); rintro ⟨⟨i, e⟩, hi, hk⟩; (try dsimp only at hi hk); have hk2 := hk; rcases a1y hi with hlt | ⟨hlt, rfl⟩; rotate_left; rw [c7g, a9j] at hk2; rotate_left; focus (rw [d8i hlt] at hk2; have wi := wli hlt (by omega); by_cases h51 : f.code[i].op = 51; all_goals by_cases he : 0 < e; all_goals by_cases h50 : f.code[i].op = 50))
   | ((with_reducible refine a1m ?_); refine a2a (⟨(i + 1, W (e - 1)), by dsimp only; omega, by dsimp only; rw [hk2]; simp [*]⟩) (a4m [] (fun _ h => h) (by rfl) ?_ ?_ ?_) (by dsimp only; omega); (focus (simp [*, SIMF, a0c, a0e, a0m, a1d, a0u, a0b, a0f, a0o, a1f, a1g, a0d, a0j, a0r, a1q, a1r, a0g, a0p, a0s, a1o, a1p, a0a, a0i, a0l, a1e, a0w, List.take_of_length_le, List.filter_append, *]; done)); (focus (simp [*, SIMF, a0c, a0e, a0m, a1d, a0u, a0b, a0f, a0o, a1f, a1g, a0d, a0j, a0r, a1q, a1r, a0g, a0p, a0s, a1o, a1p, a0a, a0i, a0l, a1e, a0w, List.take_of_length_le, List.filter_append, *]; done)); (focus (simp [*, SIMF, a0c, a0e, a0m, a1d, a0u, a0b, a0f, a0o, a1f, a1g, a0d, a0j, a0r, a1q, a1r, a0g, a0p, a0s, a1o, a1p, a0a, a0i, a0l, a1e, a0w, List.take_of_length_le, List.filter_append, *]; done)))
   | ((with_reducible refine a1m ?_); refine a2a (⟨(i + 1, f.code[i].b), by dsimp only; omega, by dsimp only; rw [hk2]; simp [*]⟩) (a4m [] (fun _ h => h) (by rfl) ?_ ?_ ?_) (by dsimp only; omega); (focus (simp [*, SIMF, a0c, a0e, a0m, a1d, a0u, a0b, a0f, a0o, a1f, a1g, a0d, a0j, a0r, a1q, a1r, a0g, a0p, a0s, a1o, a1p, a0a, a0i, a0l, a1e, a0w, List.take_of_length_le, List.filter_append, *]; done)); (focus (simp [*, SIMF, a0c, a0e, a0m, a1d, a0u, a0b, a0f, a0o, a1f, a1g, a0d, a0j, a0r, a1q, a1r, a0g, a0p, a0s, a1o, a1p, a0a, a0i, a0l, a1e, a0w, List.take_of_length_le, List.filter_append, *]; done)); (focus (simp [*, SIMF, a0c, a0e, a0m, a1d, a0u, a0b, a0f, a0o, a1f, a1g, a0d, a0j, a0r, a1q, a1r, a0g, a0p, a0s, a1o, a1p, a0a, a0i, a0l, a1e, a0w, List.take_of_length_le, List.filter_append, *]; done)))
   | ((with_reducible refine a1m ?_); refine a2a (⟨(i + 1, e), by dsimp only; omega, by dsimp only; rw [hk2]; simp [*]⟩) (a4m [] (fun _ h => h) (by rfl) ?_ ?_ ?_) (by dsimp only; omega); (focus (simp [*, SIMF, a0c, a0e, a0m, a1d, a0u, a0b, a0f, a0o, a1f, a1g, a0d, a0j, a0r, a1q, a1r, a0g, a0p, a0s, a1o, a1p, a0a, a0i, a0l, a1e, a0w, List.take_of_length_le, List.filter_append, *]; done)); (focus (simp [*, SIMF, a0c, a0e, a0m, a1d, a0u, a0b, a0f, a0o, a1f, a1g, a0d, a0j, a0r, a1q, a1r, a0g, a0p, a0s, a1o, a1p, a0a, a0i, a0l, a1e, a0w, List.take_of_length_le, List.filter_append, *]; done)); (focus (simp [*, SIMF, a0c, a0e, a0m, a1d, a0u, a0b, a0f, a0o, a1f, a1g, a0d, a0j, a0r, a1q, a1r, a0g, a0p, a0s, a1o, a1p, a0a, a0i, a0l, a1e, a0w, List.take_of_length_le, List.filter_append, *]; done)))
   | with_reducible first | refine stp ?_ | refine stpK ?_; intro K hK | refine stpC ?_; intro T E hT hE | refine stp2 ?_ ?_ <;> intro h | refine a0x rfl ?_ | refine a2n (c66 p f _ hc hf hg hl) (by simp [nls, nl, *, a0b, a0d, a0g, a0a, a0c]) ?_ | refine hpc (c66 p f _ hc hf hg hl) (by simp [nls, nl, *, a0b, a0d, a0g, a0a, a0c]) ?_ | refine a2n (c66e p f f.code[i] _ h51 hc hf hg hl) (by simp [nls, nl, *, a0b, a0d, a0g, a0a, a0c]) ?_ | refine hpc (c66e p f f.code[i] _ h51 hc hf hg hl) (by simp [nls, nl, *, a0b, a0d, a0g, a0a, a0c]) ?_ | refine a2n (c66e p f f.code[i] _ h50 hc hf hg hl) (by simp [nls, nl, *, a0b, a0d, a0g, a0a, a0c]) ?_ | refine hpc (c66e p f f.code[i] _ h50 hc hf hg hl) (by simp [nls, nl, *, a0b, a0d, a0g, a0a, a0c]) ?_ | refine a1a rfl (by decide) a0z ?_ | refine a1a rfl (by decide) (a0y (by simp [upd, noH, ext, a5r, a4l, *])) ?_ | refine a2i (by decide) (by kernel_rfl) ?_ | refine a1j (by decide) ?_ | refine Kont.go hK ?_; clear hK K | refine KT.go hT ?_; clear hT hE T E | refine KT.go hE ?_; clear hT hE T E
   | simp [*, -List.all_flatten, -List.all_eq_true, DEFO, -Bool.decide_and, eqV, a0e, a0f, a0j, a0p, a0i, a0c, a0b, a0d, a0g, a0a, a5t, a3i, a3t, a9t, a6g, a2r, Ins.row, FnD.row, Gb.row, a4h, Int.le_sub_one_iff, List.length_drop]
  all_goals first
   | (simp_all [fnR, FnD.nm, a9x, a9r, btw, W]; done)
   | (rw [<- Bool.not_eq_true]; intro hh; simp [fnR, FnD.nm, a9x, a9r, btw, *] at hh <;> omega)
   | (clear hk; simp_all [fnR, FnD.nm, a9x, a9r, btw, W]; done)
   | (clear hk; rw [<- Bool.not_eq_true]; intro hh; simp [fnR, FnD.nm, a9x, a9r, btw, *] at hh <;> omega)
   | (clear hk; have q1 : f.code.length <= 1000 := (by omega); have q2 : f.regs <= 64 := (by omega); have q3 : 0 <= f.params := (by omega); have q4 : f.params <= f.regs := (by omega); simp [fnR, FnD.nm, a9x, a9r, btw, W, *]; done)
   | trace_state
end Go.Je
namespace Go.Gv
open Go Go.FM
set_option maxRecDepth 100000
set_option maxHeartbeats 40000000
def ldI (c : List Ins) (i : Nat) : List Int := match c[i]? with
 | none => []
 | some n => if n.op = 16 \/ n.op = 17 \/ n.op = 45 then [n.c, (i : Int) + 1] else if n.op = 30 then [(i : Int) + 1] else []
def ldA (c : List Ins) (b : List Int) (k : Nat) : List Bool := mkL (mkL (List.replicate (c.length + 1) false) b) ((List.range k).flatMap (ldI c))
theorem b2p {c : List Ins} {i : Nat} (h : i < c.length) : ldI c i = if c[i].op = 16 \/ c[i].op = 17 \/ c[i].op = 45 then [c[i].c, (i : Int) + 1] else if c[i].op = 30 then [(i : Int) + 1] else [] := by
 unfold ldI
 rw [List.getElem?_eq_getElem h]
theorem e6b (c : List Ins) (b : List Int) (k : Nat) : ldA c b (k + 1) = mkL (ldA c b k) (ldI c k) := by
 unfold ldA
 rw [List.range_succ, List.flatMap_append, c8v]
 simp
theorem g8u (c : List Ins) (b : List Int) : ldA c b 0 = mkL (List.replicate (c.length + 1) false) b := rfl
theorem c3q (c : List Ins) (b : List Int) (k : Nat) : (ldA c b k).length = c.length + 1 := by simp [ldA, b1w]
theorem d2w {c : List Ins} (hc : CodeOk c) {i : Nat} {v : Int} (h : v ∈ ldI c i) : 0 <= v /\ v < ((c.length + 1 : Nat) : Int) /\ (∀ hv : v.toNat < c.length, c[v.toNat].op ≠ 51) := by
 unfold ldI at h
 split at h
 . cases h
 rename_i n hn
 obtain ⟨hi, rfl⟩ := List.getElem?_eq_some_iff.1 hn
 have nxt : c[i].op ≠ 50 -> c[i].op ≠ 51 -> 0 <= (i : Int) + 1 /\ (i : Int) + 1 < ((c.length + 1 : Nat) : Int) /\ ∀ hv : ((i : Int) + 1).toNat < c.length, c[((i : Int) + 1).toNat].op ≠ 51 := fun h1 h2 => by
  refine ⟨by omega, by omega, fun hv => ?_⟩
  have e : ((i : Int) + 1).toNat = i + 1 := by omega
  simp only [e]
  exact hc.fall i (by omega) h1 h2
 split at h
 . rename_i e
   simp only [List.mem_cons, List.not_mem_nil, or_false] at h
   rcases h with h | h
   . subst h
     obtain ⟨h1, h2, h3⟩ := hc.tgt i hi e
     exact ⟨h1, by omega, fun _ => h3⟩
   . subst h; exact nxt (by omega) (by omega)
 split at h
 . rw [List.mem_singleton] at h
   subst h; exact nxt (by omega) (by omega)
 . cases h
def a5l (c : List Ins) : List Bool := ldA c [0] c.length
theorem b6d (c : List Ins) : (a5l c).length = c.length + 1 := c3q ..
theorem d3c {c : List Ins} (hc : CodeOk c) {b : List Int} (hb : ∀ o ∈ b, 0 <= o /\ o < ((c.length + 1 : Nat) : Int)) {k : Nat} {v : Int} : isM (ldA c b k) v ↔ v ∈ b \/ ∃ i, i < k /\ v ∈ ldI c i := by
 unfold ldA
 rw [isM_mkL _ _ fun o ho => ?_, isM_mkL _ _ fun o ho => ?_]
 . simp only [List.mem_flatMap, List.mem_range]
   exact ⟨fun h => h.elim (fun h => .inl (h.resolve_left (b1r _ v))) fun ⟨a, b, c⟩ => .inr ⟨a, b, c⟩, fun h => h.elim (fun h => .inl (.inr h)) .inr⟩
 . rw [List.length_replicate]; exact hb o ho
 . rw [b1w, List.length_replicate]
   obtain ⟨i, _, h⟩ := List.mem_flatMap.1 ho
   exact ⟨(d2w hc h).1, (d2w hc h).2.1⟩
theorem a7b {c : List Ins} (hc : CodeOk c) {v : Int} : isM (a5l c) v ↔ v = 0 \/ ∃ i, i < c.length /\ v ∈ ldI c i := by
 unfold a5l
 rw [d3c hc (fun o ho => by rw [List.mem_singleton] at ho; omega)]
 simp
theorem c6e {c : List Ins} (hc : CodeOk c) : isM (a5l c) (c.length : Int) := by
 have h := hc.ne
 have h1 := hc.la (c.length - 1) (by omega) (by omega)
 refine (a7b hc).2 (.inr ⟨c.length - 1, by omega, ?_⟩)
 have e : ((c.length - 1 : Nat) : Int) + 1 = (c.length : Int) := by omega
 rw [b2p (by omega), e]
 rcases h1 with h1 | h1
 . rw [if_neg (by omega), if_pos h1]; simp
 . rw [if_pos (.inl h1)]; simp
theorem e6a {c : List Ins} (hc : CodeOk c) : ldA c [0, (c.length : Int)] c.length = a5l c := by
 refine c7s (by rw [c3q, b6d]) fun v => ?_
 rw [d3c hc (fun o ho => by simp only [List.mem_cons, List.not_mem_nil, or_false] at ho; omega), a7b hc]
 simp only [List.mem_cons, List.not_mem_nil, or_false]
 constructor
 . rintro ((h | h) | h)
   . exact .inl h
   . subst h; exact (a7b hc).1 (c6e hc)
   . exact .inr h
 . rintro (h | h)
   . exact .inl (.inl h)
   . exact .inr h
theorem c3p {c : List Ins} (hc : CodeOk c) {i : Nat} (h : (a5l c)[i]? = some true) (hi : i < c.length) : c[i].op ≠ 51 := by
 have hm : isM (a5l c) (i : Int) := ⟨by omega, by simpa using h⟩
 rcases (a7b hc).1 hm with h1 | ⟨j, _, h1⟩
 . have : i = 0 := by omega
   subst this; exact hc.h0 hi
 . have := (d2w hc h1).2.2 (by simpa using hi)
   simpa using this
def stF (c : List Ins) : Nat -> Nat
 | 0 => 0
 | k + 1 => if (a5l c)[k + 1]? = some true then k + 1 else stF c k
def bkF (c : List Ins) : Nat -> List (Nat × Nat)
 | 0 => []
 | k + 1 => if (a5l c)[k + 1]? = some true then bkF c k ++ [(stF c k, k + 1)] else bkF c k
def nmF (c : List Ins) (k : Nat) : Nat := (bkF c k).length
def nmL (c : List Ins) (n k : Nat) : List Int := (List.range n).map fun j => if j < k then (nmF c j : Int) else 0
theorem b7y (c : List Ins) : ∀ k, stF c k <= k
 | 0 => Nat.le_refl _
 | k + 1 => by
   unfold stF
   split
   . exact Nat.le_refl _
   . have := b7y c k; omega
theorem c3a {c : List Ins} {k : Nat} (h : (a5l c)[k + 1]? = some true) : stF c (k + 1) = k + 1 := by rw [stF, if_pos h]
theorem c1e {c : List Ins} {k : Nat} (h : ¬ (a5l c)[k + 1]? = some true) : stF c (k + 1) = stF c k := by rw [stF, if_neg h]
theorem c4r {c : List Ins} {k : Nat} (h : (a5l c)[k + 1]? = some true) : bkF c (k + 1) = bkF c k ++ [(stF c k, k + 1)] := by rw [bkF, if_pos h]
theorem c2r {c : List Ins} {k : Nat} (h : ¬ (a5l c)[k + 1]? = some true) : bkF c (k + 1) = bkF c k := by rw [bkF, if_neg h]
theorem b5h {c : List Ins} {j : Nat} : ∀ k, stF c k <= j -> j <= k -> bkF c j = bkF c k /\ stF c j = stF c k
 | 0, _, h => by rw [Nat.le_zero.1 h]; exact ⟨rfl, rfl⟩
 | k + 1, h1, h2 => by
   by_cases e : j = k + 1
   . subst e; exact ⟨rfl, rfl⟩
   . by_cases hl : (a5l c)[k + 1]? = some true
     . rw [c3a hl] at h1; omega
     . rw [c2r hl, c1e hl]
       rw [c1e hl] at h1
       exact b5h k h1 (by omega)
theorem c3l (c : List Ins) (n k : Nat) : (nmL c n k).length = n := by simp [nmL]
theorem g8o (c : List Ins) (n : Nat) : nmL c n 0 = List.replicate n 0 := by simp [nmL, List.map_const']
theorem g8n {c : List Ins} {n k : Nat} (h : k < n) : (nmL c n k).set k (nmF c k : Int) = nmL c n (k + 1) := by
 refine List.ext_getElem (by simp [nmL]) fun i h1 h2 => ?_
 rw [List.getElem_set]
 simp only [nmL, List.getElem_map, List.getElem_range]
 by_cases e : k = i
 . subst e; rw [if_pos rfl, if_pos (by omega)]
 . rw [if_neg e]
   by_cases e2 : i < k
   . rw [if_pos e2, if_pos (by omega)]
   . rw [if_neg e2, if_neg (by omega)]
theorem f4s {c : List Ins} {n k i : Nat} (h : i < n) (hk : i < k) : (nmL c n k)[i]? = some (nmF c i : Int) := by
 rw [nmL, List.getElem?_map, List.getElem?_range h]
 simp [hk]
theorem c3b {c : List Ins} (hc : CodeOk c) : stF c c.length = c.length := by
 have h := hc.ne
 have hl := (c6e hc).2
 rw [Int.toNat_natCast] at hl
 obtain ⟨j, e⟩ : ∃ j, c.length = j + 1 := ⟨c.length - 1, by omega⟩
 rw [e] at hl ⊢
 exact c3a hl
structure BkIn (c : List Ins) (j : Nat) (b : Nat × Nat) : Prop where
 lt : b.1 < b.2
 num : ∀ i, b.1 <= i -> i < b.2 -> stF c i = b.1 /\ nmF c i = j
 l2 : (a5l c)[b.2]? = some true
 n2 : nmF c b.2 = j + 1
theorem c9i (c : List Ins) : ∀ k j (h : j < (bkF c k).length), BkIn c j (bkF c k)[j] /\ (bkF c k)[j].2 <= k
 | 0, _, h => by cases h
 | k + 1, j, h => by
   by_cases hl : (a5l c)[k + 1]? = some true
   . have e := c4r hl
     have h' : j < (bkF c k ++ [(stF c k, k + 1)]).length := by rw [<- e]; exact h
     have key : BkIn c j (bkF c k ++ [(stF c k, k + 1)])[j] /\ (bkF c k ++ [(stF c k, k + 1)])[j].2 <= k + 1 := by
      rw [List.getElem_append]
      split
      . rename_i h1
        have := c9i c k j h1
        exact ⟨this.1, by omega⟩
      . rename_i h1
        rw [List.length_append, List.length_singleton] at h'
        have e2 : j = (bkF c k).length := by omega
        simp only [e2, Nat.sub_self, List.getElem_cons_zero]
        refine ⟨⟨by have := b7y c k; omega, fun i h2 h3 => ?_, hl, ?_⟩, Nat.le_refl _⟩
        . obtain ⟨g1, g2⟩ := b5h (c := c) (j := i) k h2 (by simp only at h3; omega)
          exact ⟨g2, by rw [nmF, g1]⟩
        . show nmF c (k + 1) = _
          rw [nmF, e, List.length_append]; rfl
     simpa only [e] using key
   . have e := c2r hl
     have := c9i c k j (by rw [<- e]; exact h)
     simp only [e]
     exact ⟨this.1, by omega⟩
theorem e9h (c : List Ins) : ∀ k i, i < stF c k -> ∃ h : nmF c i < (bkF c k).length, (bkF c k)[nmF c i].1 <= i /\ i < (bkF c k)[nmF c i].2
 | 0, _, h => by cases h
 | k + 1, i, h => by
   by_cases hl : (a5l c)[k + 1]? = some true
   . have e := c4r hl
     rw [c3a hl] at h
     have key : ∃ h : nmF c i < (bkF c k ++ [(stF c k, k + 1)]).length, (bkF c k ++ [(stF c k, k + 1)])[nmF c i].1 <= i /\ i < (bkF c k ++ [(stF c k, k + 1)])[nmF c i].2 := by
      rcases Nat.lt_or_ge i (stF c k) with h1 | h1
      . obtain ⟨g1, g2, g3⟩ := e9h c k i h1
        refine ⟨by rw [List.length_append]; omega, ?_⟩
        rw [List.getElem_append_left g1]
        exact ⟨g2, g3⟩
      . obtain ⟨g1, g2⟩ := b5h (c := c) (j := i) k h1 (by omega)
        have g3 : nmF c i = (bkF c k).length := by rw [nmF, g1]
        refine ⟨by rw [List.length_append, List.length_singleton]; omega, ?_⟩
        simp only [g3]
        rw [List.getElem_append_right (Nat.le_refl _)]
        simp only [Nat.sub_self, List.getElem_cons_zero]
        exact ⟨h1, by omega⟩
     simpa only [e] using key
   . have e := c2r hl
     rw [c1e hl] at h
     have := e9h c k i h
     simpa only [e] using this
theorem c6b (c : List Ins) {i : Nat} : ∀ k, i <= k -> nmF c i <= nmF c k
 | 0, h => by rw [Nat.le_zero.1 h]; exact Nat.le_refl _
 | k + 1, h => by
   by_cases e : i = k + 1
   . subst e; exact Nat.le_refl _
   . have := c6b c (i := i) k (by omega)
     by_cases hl : (a5l c)[k + 1]? = some true
     . have : nmF c (k + 1) = nmF c k + 1 := by rw [nmF, c4r hl, List.length_append]; rfl
       omega
     . have : nmF c (k + 1) = nmF c k := by rw [nmF, c2r hl]; rfl
       omega
theorem d2j {c : List Ins} {i k : Nat} (h : i < k) (hl : (a5l c)[k]? = some true) : nmF c i < nmF c k := by
 obtain ⟨j, rfl⟩ : ∃ j, k = j + 1 := ⟨k - 1, by omega⟩
 have := c6b c (i := i) j (by omega)
 have : nmF c (j + 1) = nmF c j + 1 := by rw [nmF, c4r hl, List.length_append]; rfl
 omega
theorem e9f {c : List Ins} (hc : CodeOk c) {k j : Nat} (h : j + 1 < (bkF c k).length) : (bkF c k)[j + 1].1 = (bkF c k)[j].2 := by
 obtain ⟨h1, _⟩ := c9i c k j (by omega)
 obtain ⟨h2, _⟩ := c9i c k (j + 1) h
 have n1 := h1.n2
 have n2 := (h2.num _ (Nat.le_refl _) h2.lt).2
 have hl1 := h1.l2
 have hl2 : (a5l c)[(bkF c k)[j + 1].1]? = some true := by
  have := (h2.num _ (Nat.le_refl _) h2.lt).1
  cases hz : (bkF c k)[j + 1].1 with
  | zero =>
    have := ((a7b hc).2 (.inl rfl) : isM (a5l c) 0).2
    simpa using this
  | succ m =>
    rw [hz] at this
    by_cases hl : (a5l c)[m + 1]? = some true
    . exact hl
    . rw [c1e hl] at this
      have := b7y c m; omega
 rcases Nat.lt_trichotomy (bkF c k)[j + 1].1 (bkF c k)[j].2 with h3 | h3 | h3
 . have := d2j h3 hl1; omega
 . exact h3
 . have := d2j h3 hl2; omega
theorem c7t {c : List Ins} {k : Nat} (h : 0 < (bkF c k).length) : (bkF c k)[0].1 = 0 := by
 obtain ⟨h1, _⟩ := c9i c k 0 h
 have n2 := h1.num _ (Nat.le_refl _) h1.lt
 cases hz : (bkF c k)[0].1 with
 | zero => rfl
 | succ m =>
   rw [hz] at n2
   by_cases hl : (a5l c)[m + 1]? = some true
   . have := d2j (c := c) (i := m) (by omega) hl; omega
   . rw [c1e hl] at n2
     have := b7y c m; omega
theorem e9g {c : List Ins} {k : Nat} (h : 0 < (bkF c k).length) : (bkF c k)[(bkF c k).length - 1].2 = stF c k := by
 induction k with
 | zero => cases h
 | succ k ih =>
   by_cases hl : (a5l c)[k + 1]? = some true
   . have e := c4r hl
     have key : ∀ h : 0 < (bkF c k ++ [(stF c k, k + 1)]).length, (bkF c k ++ [(stF c k, k + 1)])[(bkF c k ++ [(stF c k, k + 1)]).length - 1].2 = k + 1 := fun h => by
      rw [List.getElem_append_right (by simp)]
      simp
     rw [c3a hl]
     simpa only [e] using key (by simp)
   . have e := c2r hl
     rw [c1e hl]
     have := ih (by rw [<- e]; exact h)
     simpa only [e] using this
def nxB (c : List Ins) (b : Nat × Nat) : List Int := ((nx c (hd c (b.2 - 1))).map fun v => (nmF c v.toNat : Int)).foldl a5p []
def blks (c : List Ins) : List (Nat × Nat) := bkF c c.length
def nxN (c : List Ins) (j : Nat) : List Int := match (blks c)[j]? with
 | some b => nxB c b
 | none => []
theorem b6b {v : Int} : ∀ (s a : List Int), v ∈ s.foldl a5p a ↔ v ∈ a \/ v ∈ s
 | [], a => by simp
 | x :: s, a => by
   rw [List.foldl_cons, b6b s (a5p a x), b9u, List.mem_cons, or_assoc]
theorem c3m {c : List Ins} {b : Nat × Nat} {v : Int} : v ∈ nxB c b ↔ ∃ w ∈ nx c (hd c (b.2 - 1)), v = (nmF c w.toNat : Int) := by
 unfold nxB
 rw [b6b]
 simp only [List.not_mem_nil, false_or, List.mem_map]
 exact ⟨fun ⟨w, h, e⟩ => ⟨w, h, e.symm⟩, fun ⟨w, h, e⟩ => ⟨w, h, e.symm⟩⟩
inductive RB (c : List Ins) : Nat -> Prop
 | zero : RB c 0
 | step {j : Nat} {v : Int} : RB c j -> v ∈ nxN c j -> RB c v.toNat
theorem c2q {c : List Ins} (hc : CodeOk c) {i : Nat} (h : i < c.length) : ∃ hj : nmF c i < (blks c).length, (blks c)[nmF c i].1 <= i /\ i < (blks c)[nmF c i].2 := by
 have := e9h c c.length i (by rw [c3b hc]; exact h)
 exact this
theorem b3a {c : List Ins} {j : Nat} (h : j < (blks c).length) : BkIn c j (blks c)[j] /\ (blks c)[j].2 <= c.length := c9i c c.length j h
theorem d2g {c : List Ins} {j : Nat} (h : j < (blks c).length) : nxN c j = nxB c (blks c)[j] := by
 unfold nxN
 rw [List.getElem?_eq_getElem h]
theorem c1n {c : List Ins} (hc : CodeOk c) {j : Nat} {v : Int} (h : v ∈ nxN c j) : 0 <= v /\ v < ((blks c).length : Int) := by
 unfold nxN at h
 split at h
 . obtain ⟨w, hw, rfl⟩ := c3m.1 h
   obtain ⟨h1, h2, _⟩ := b1d hc hw
   obtain ⟨h3, _⟩ := c2q hc h2
   omega
 . cases h
theorem d3q {c : List Ins} (hc : CodeOk c) {i : Nat} (h : i < c.length) (e : c[i].op = 51) : ∃ hj : hd c i < i, c[hd c i].op = 50 /\ (i : Int) <= hd c i + c[hd c i].b := by
 obtain ⟨j, hj, g1, g2, g3⟩ := hc.cas i h e
 have key : ∀ k, j <= k -> k <= i -> hd c k = j := fun k => by
  induction k with
  | zero => intro h1 _; rw [Nat.le_zero.1 h1]; rfl
  | succ k ih =>
    intro h1 h2
    by_cases ek : j = k + 1
    . subst ek
      exact a8u (by omega) (by omega)
    . rw [hd_s (by omega) (g3 (k + 1) (by omega) (by omega) h2)]
      exact ih (by omega) (by omega)
 have := key i (by omega) (Nat.le_refl _)
 simp only [this]
 exact ⟨hj, g1, g2⟩
theorem d2n {c : List Ins} (hc : CodeOk c) {j : Nat} (h : j < (blks c).length) {v : Int} (hv : v ∈ nx c (hd c ((blks c)[j].2 - 1))) : (a5l c)[v.toNat]? = some true := by
 obtain ⟨B, hB⟩ := b3a h
 generalize hb : (blks c)[j] = b at B hB hv
 have hlt := B.lt
 have hle := c3u c (b.2 - 1)
 generalize hi : hd c (b.2 - 1) = i at hv hle
 have hil : i < c.length := by omega
 have hop : c[i].op ≠ 51 := by
  have := d3p hc (b.2 - 1) (by omega) (by rw [hi]; omega)
  simpa only [hi] using this
 have L : ∀ w : Int, w ∈ ldI c i -> (a5l c)[w.toNat]? = some true := fun w hw => ((a7b hc).2 (.inr ⟨i, hil, hw⟩)).2
 have E : v = (b.2 : Int) -> (a5l c)[v.toNat]? = some true := fun e => by rw [e, Int.toNat_natCast]; exact B.l2
 -- the last instruction, where no case follows
 have T : c[i].op ≠ 50 -> i = b.2 - 1 := fun n50 => by
  by_cases e5 : c[b.2 - 1].op = 51
  . obtain ⟨g1, g2, _⟩ := d3q hc (by omega) e5
    simp only [hi] at g2
    omega
  . rw [a8u (by omega) e5] at hi; exact hi.symm
 rw [c8s hil] at hv
 split at hv
 . cases hv
 split at hv
 . rename_i e
   rw [List.mem_singleton] at hv; subst hv
   exact L _ (by rw [b2p hil, if_pos (.inl e)]; simp)
 split at hv
 . rename_i e
   rcases c1s.1 hv with hv | hv
   . subst hv
     exact L _ (by rw [b2p hil, if_pos (.inr e)]; simp)
   . subst hv
     exact L _ (by rw [b2p hil, if_pos (.inr e)]; simp)
 split at hv
 . rename_i e
   rw [List.mem_singleton] at hv
   obtain ⟨⟨s1, _⟩, s2, s3, s4⟩ := hc.sel i hil e
   refine E ?_
   rcases Nat.lt_or_ge (b.2 - 1) (i + 1 + c[i].b.toNat) with h1 | h1
   . rcases Nat.lt_or_ge b.2 (i + 1 + c[i].b.toNat) with h2 | h2
     . -- a leader that is a case
       obtain ⟨g1, g2⟩ := s2 (b.2 - i - 1) (by omega)
       have e2 : i + 1 + (b.2 - i - 1) = b.2 := by omega
       simp only [e2] at g2
       exact absurd g2 (c3p hc B.l2 (by omega))
     . omega
   . by_cases e5 : c[b.2 - 1].op = 51
     . obtain ⟨g1, g2, g3⟩ := d3q hc (by omega) e5
       simp only [hi] at g3
       omega
     . rw [a8u (by omega) e5] at hi; omega
 . rename_i n30 n16 n17 n50
   rw [List.mem_singleton] at hv
   have := T (by omega)
   exact E (by omega)
theorem d5o {c : List Ins} (hc : CodeOk c) {j : Nat} (h : j < (blks c).length) (hr : Rc c (blks c)[j].1) : ∀ i, (blks c)[j].1 <= i -> i < (blks c)[j].2 -> Rc c (hd c i) := by
 obtain ⟨B, hB⟩ := b3a h
 generalize hb : (blks c)[j] = b at B hB hr
 intro i
 induction i with
 | zero =>
   intro h1 _
   have : b.1 = 0 := by omega
   rw [this] at hr; exact hr
 | succ i ih =>
   intro h1 h2
   by_cases e1 : b.1 = i + 1
   . have ho := hr.op hc (by omega)
     rw [<- e1, a8u (by omega) ho]; exact hr
   . have ihr := ih (by omega) (by omega)
     by_cases e5 : c[i + 1].op = 51
     . rw [hd_s (by omega) e5]; exact ihr
     rw [a8u (by omega) e5]
     have hnl : ¬ (a5l c)[i + 1]? = some true := fun hl => by
      have g1 := (B.num (i + 1) h1 h2).1
      rw [c3a hl] at g1
      omega
     have hni : ∀ w : Int, w ∈ ldI c i -> w ≠ (i : Int) + 1 := fun w hw e => hnl (by
      have := ((a7b hc).2 (.inr ⟨i, by omega, hw⟩)).2
      rw [e] at this
      have e2 : ((i : Int) + 1).toNat = i + 1 := by omega
      rwa [e2] at this)
     have e2 : ((i : Int) + 1).toNat = i + 1 := by omega
     by_cases e51 : c[i].op = 51
     . obtain ⟨g1, g2, g3⟩ := d3q hc (by omega) e51
       obtain ⟨q, hq⟩ : ∃ q, hd c i = q := ⟨_, rfl⟩
       simp only [hq] at ihr g1 g2 g3
       obtain ⟨⟨s1, _⟩, s2, s3, s4⟩ := hc.sel q (by omega) g2
       have e3 : (i : Int) = q + c[q].b := by
        rcases Int.lt_or_le (i : Int) (q + c[q].b) with h3 | h3
        . obtain ⟨g4, g5⟩ := s2 (i - q) (by omega)
          have e6 : q + 1 + (i - q) = i + 1 := by omega
          simp only [e6] at g5
          exact absurd g5 e5
        . omega
       have : (i : Int) + 1 ∈ nx c q := by
        rw [c8s (by omega), if_neg (by omega), if_neg (by omega), if_neg (by omega), if_pos g2, List.mem_singleton]
        omega
       have := ihr.step this
       rwa [e2] at this
     . rw [a8u (by omega) e51] at ihr
       have hlI := b2p (c := c) (i := i) (by omega)
       have n17 : ¬ (c[i].op = 16 \/ c[i].op = 17 \/ c[i].op = 45) := fun e => hni ((i : Int) + 1) (by rw [hlI, if_pos e]; simp) rfl
       have n30 : ¬ c[i].op = 30 := fun e => hni ((i : Int) + 1) (by rw [hlI, if_neg n17, if_pos e]; simp) rfl
       have : (i : Int) + 1 ∈ nx c i := by
        rw [c8s (by omega), if_neg (by omega), if_neg (by omega), if_neg (by omega)]
        split
        . rename_i e
          rw [List.mem_singleton]
          obtain ⟨⟨s1, _⟩, s2, s3, s4⟩ := hc.sel i (by omega) e
          have : ¬ 0 < c[i].b := fun h3 => by
           obtain ⟨g4, g5⟩ := s2 0 (by omega)
           exact absurd g5 e5
          omega
        . simp
       have := ihr.step this
       rwa [e2] at this
theorem b8i {c : List Ins} {i : Nat} (h : (a5l c)[i]? = some true) : stF c i = i := by
 cases i with
 | zero => rfl
 | succ i => exact c3a h
theorem e4z {c : List Ins} (hc : CodeOk c) {j : Nat} (h : RB c j) : j < (blks c).length := by
 cases h with
 | zero =>
   obtain ⟨h1, _⟩ := c2q hc hc.ne
   have : nmF c 0 = 0 := rfl
   omega
 | step _ h => have := c1n hc h; omega
theorem g8c {c : List Ins} (hc : CodeOk c) {j : Nat} (h : RB c j) : ∀ hj : j < (blks c).length, Rc c (blks c)[j].1 := by
 induction h with
 | zero =>
   intro hj
   have : (blks c)[0].1 = 0 := c7t hj
   rw [this]; exact .zero hc.ne
 | @step j v h1 h2 ih =>
   intro hj
   have hj0 := e4z hc h1
   rw [d2g hj0] at h2
   obtain ⟨w, hw, rfl⟩ := c3m.1 h2
   have hl := d2n hc hj0 hw
   obtain ⟨_, hwl, _⟩ := b1d hc hw
   simp only [Int.toNat_natCast] at hj ⊢
   obtain ⟨g1, g2, g3⟩ := c2q hc hwl
   have g4 := ((b3a g1).1.num _ g2 g3).1
   rw [b8i hl] at g4
   rw [<- g4]
   have hlt := (b3a hj0).1.lt
   exact .step (d5o hc hj0 (ih hj0) ((blks c)[j].2 - 1) (by omega) (by omega)) hw
theorem f4r {c : List Ins} (hc : CodeOk c) {i : Nat} (h : Rc c i) : RB c (nmF c i) := by
 induction h with
 | zero => exact .zero
 | @step i v h1 hv ih =>
   have hi := h1.lt hc
   have hop := h1.op hc hi
   obtain ⟨h2, hvl, hvo⟩ := b1d hc hv
   obtain ⟨g1, g2, g3⟩ := c2q hc hi
   obtain ⟨B, hB⟩ := b3a g1
   by_cases e : hd c ((blks c)[nmF c i].2 - 1) = i
   . have : RB c ((nmF c v.toNat : Nat) : Int).toNat := .step ih (by rw [d2g g1]; exact c3m.2 ⟨v, by rw [e]; exact hv, rfl⟩)
     rwa [Int.toNat_natCast] at this
   . -- the same block
     generalize hb : (blks c)[nmF c i] = b at B hB e g2 g3
     have same : b.1 <= v.toNat -> v.toNat < b.2 -> RB c (nmF c v.toNat) := fun a1 a2 => by rw [(B.num _ a1 a2).2]; exact ih
     have hend : b.2 = i + 1 -> False := fun e2 => e (by
      have : b.2 - 1 = i := by omega
      rw [this]; exact a8u hi hop)
     have hld : (i : Int) + 1 ∈ ldI c i -> False := fun hm => by
      have hl := ((a7b hc).2 (.inr ⟨i, hi, hm⟩)).2
      have e2 : ((i : Int) + 1).toNat = i + 1 := by omega
      rw [e2] at hl
      rcases Nat.lt_or_ge (i + 1) b.2 with h5 | h5
      . have := (B.num (i + 1) (by omega) h5).1
        rw [b8i hl] at this
        omega
      . exact hend (by omega)
     have hlI := b2p (c := c) (i := i) hi
     have n17 : ¬ (c[i].op = 16 \/ c[i].op = 17 \/ c[i].op = 45) := fun e => hld (by rw [hlI, if_pos e]; simp)
     have n30 : ¬ c[i].op = 30 := fun e => hld (by rw [hlI, if_neg n17, if_pos e]; simp)
     rw [c8s hi, if_neg (by omega), if_neg (by omega), if_neg (by omega)] at hv
     split at hv
     . rename_i e5
       rw [List.mem_singleton] at hv
       obtain ⟨⟨s1, _⟩, s2, s3, s4⟩ := hc.sel i hi e5
       rcases Nat.lt_or_ge v.toNat b.2 with h5 | h5
       . exact same (by omega) h5
       . exfalso
         refine e ?_
         have key : ∀ k, i <= k -> k < i + 1 + c[i].b.toNat -> hd c k = i := fun k => by
          induction k with
          | zero => intro a1 _; rw [Nat.le_zero.1 a1]; rfl
          | succ k ihk =>
            intro a1 a2
            by_cases ek : i = k + 1
            . subst ek; exact a8u hi hop
            . obtain ⟨g4, g5⟩ := s2 (k - i) (by omega)
              have e6 : i + 1 + (k - i) = k + 1 := by omega
              simp only [e6] at g4 g5
              rw [hd_s (by omega) g5]
              exact ihk (by omega) (by omega)
         exact key _ (by omega) (by omega)
     . rw [List.mem_singleton] at hv
       have e2 : v.toNat = i + 1 := by omega
       rcases Nat.lt_or_ge v.toNat b.2 with h5 | h5
       . exact same (by omega) h5
       . exact (hend (by omega)).elim
def e0p (c : List Ins) (l : List Int) : Prop := ∀ o, o ∈ l ↔ 0 <= o /\ RB c o.toNat
def rW (r v : Int) : List Int := if r = 100 \/ (r = 68 /\ 0 <= v) then [v] else []
def dfI (n : Ins) : List Int := rW (rR n.op).1 n.a ++ (rW (rR n.op).2.1 n.b ++ rW (rR n.op).2.2 n.c)
def dfL (n : Ins) : List Int := (dfI n).foldl a5p []
def wrB (n : Ins) (r : Int) : Bool := (decide (n.op = 51) && (decide (n.b = 0) && decide (n.c = r))) || decide (r ∈ dfL n)
def usB (c : List Ins) (r : Int) (a : Nat) : Nat -> Int
 | 0 => -1
 | i + 1 => if i < a then -1 else match c[i]? with
   | none => -1
   | some n => if wrB n r then (if n.op = 18 then n.b else -1) else usB c r a i
def lkO (n : Int) : Bool := decide (n = 39) || decide (n = 40)
def usC (c : List Ins) (i : Nat) : Int := match c[i]? with
 | none => -1
 | some n => if lkO n.op then usB c n.a (stF c i) i else -1
theorem f3b {c : List Ins} {r : Int} {a i : Nat} (h : i <= a) : usB c r a i = -1 := by
 cases i with
 | zero => rfl
 | succ i => rw [usB, if_pos (by omega)]
theorem f3a {c : List Ins} {r : Int} {a i : Nat} (h : i < c.length) (ha : a <= i) : usB c r a (i + 1) = if wrB c[i] r then (if c[i].op = 18 then c[i].b else -1) else usB c r a i := by
 rw [usB, if_neg (by omega), List.getElem?_eq_getElem h]
theorem c9w {c : List Ins} {i : Nat} (h : i < c.length) : usC c i = if lkO c[i].op then usB c c[i].a (stF c i) i else -1 := by
 unfold usC
 rw [List.getElem?_eq_getElem h]
theorem e1e {c : List Ins} {r : Int} {a : Nat} : ∀ i, usB c r a i = -1 \/ ∃ j, ∃ hj : j < c.length, c[j].op = 18 /\ usB c r a i = c[j].b
 | 0 => .inl rfl
 | i + 1 => by
   unfold usB
   split
   . exact .inl rfl
   . split
     . exact .inl rfl
     . rename_i n hn
       obtain ⟨hi, rfl⟩ := List.getElem?_eq_some_iff.1 hn
       split
       . split
         . rename_i e
           exact .inr ⟨i, hi, e, rfl⟩
         . exact .inl rfl
       . exact e1e i
theorem f2y {p : Pg} (hp : VOk p) {f : FnD} (hf : f ∈ p.funcs) (i : Nat) : -1 <= usC f.code i /\ usC f.code i < (p.globals.length : Int) := by
 have key : ∀ r a, -1 <= usB f.code r a i /\ usB f.code r a i < (p.globals.length : Int) := fun r a => by
  rcases e1e (c := f.code) (r := r) (a := a) i with h | ⟨j, hj, h1, h2⟩
  . omega
  . have := (hp.ins f hf _ (List.getElem_mem hj)).b
    rw [h1] at this
    simp [opR, rR] at this
    omega
 unfold usC
 split
 . omega
 . split
   . exact key _ _
   . omega
theorem opA {c : List Ins} {i : Nat} (h : i < c.length) : opAt c (i : Int) = c[i].op := by simp [opAt, List.getElem?_eq_getElem h]
variable {N : Nat}
def aftB (n : Ins) (u : Int) (s : BitVec N) : BitVec N := if 0 <= u then (if n.op = 39 then s ||| BitVec.twoPow N u.toNat else s &&& ~~~BitVec.twoPow N u.toNat) else s
theorem c7w {n : Ins} {u : Int} {s : BitVec N} {v : Nat} (hv : v < N) : (aftB n u s).getLsbD v = if u = (v : Int) then decide (n.op = 39) else s.getLsbD v := by
 unfold aftB
 split
 . rename_i h0
   split
   . rename_i h1
     rw [BitVec.getLsbD_or, BitVec.getLsbD_twoPow]
     by_cases e : u = (v : Int)
     . subst e; simp [hv, h1]
     . have : ¬ u.toNat = v := by omega
       simp [e, this]
   . rename_i h1
     rw [BitVec.getLsbD_and, BitVec.getLsbD_not, BitVec.getLsbD_twoPow]
     by_cases e : u = (v : Int)
     . subst e; simp [hv, h1]
     . have : ¬ u.toNat = v := by omega
       simp [e, this, hv]
 . rw [if_neg (by omega)]
def cntB (s : BitVec N) : Nat := ((List.range N).filter fun v => s.getLsbD v).length
theorem e3c {s t : BitVec N} (h : ∀ v, v < N -> s.getLsbD v = t.getLsbD v) : s = t := BitVec.eq_of_getLsbD_eq fun i hi => h i hi
theorem d4g : ∀ (l : List Nat) (f g : Nat -> Bool), (∀ v ∈ l, f v = true -> g v = true) -> (l.filter f).length <= (l.filter g).length /\ ((l.filter f).length = (l.filter g).length -> ∀ v ∈ l, f v = g v)
 | [], _, _, _ => ⟨Nat.le_refl _, fun _ v h => by cases h⟩
 | a :: l, f, g, h => by
   obtain ⟨h1, h2⟩ := d4g l f g fun v hv => h v (List.mem_cons_of_mem _ hv)
   have h0 := h a (by simp)
   cases hf : f a <;> cases hg : g a
   . rw [List.filter_cons_of_neg (by simp [hf]), List.filter_cons_of_neg (by simp [hg])]
     refine ⟨h1, fun e v hv => ?_⟩
     rcases List.mem_cons.1 hv with rfl | hv
     . rw [hf, hg]
     . exact h2 e v hv
   . rw [List.filter_cons_of_neg (by simp [hf]), List.filter_cons_of_pos (by simp [hg]), List.length_cons]
     exact ⟨by omega, fun e => by omega⟩
   . rw [h0 hf] at hg; cases hg
   . rw [List.filter_cons_of_pos (by simp [hf]), List.filter_cons_of_pos (by simp [hg]), List.length_cons, List.length_cons]
     refine ⟨by omega, fun e v hv => ?_⟩
     rcases List.mem_cons.1 hv with rfl | hv
     . rw [hf, hg]
     . exact h2 (by omega) v hv
theorem d5c {x o : BitVec N} (h : x &&& o ≠ x) : cntB (x &&& o) < cntB x := by
 obtain ⟨h1, h2⟩ := d4g (List.range N) (fun v => (x &&& o).getLsbD v) (fun v => x.getLsbD v) fun v _ hv => by
  simp only [BitVec.getLsbD_and, Bool.and_eq_true] at hv
  exact hv.1
 unfold cntB
 rcases Nat.lt_or_ge ((List.range N).filter fun v => (x &&& o).getLsbD v).length ((List.range N).filter fun v => x.getLsbD v).length with h3 | h3
 . exact h3
 . exact absurd (e3c fun v hv => h2 (by omega) v (by simpa using hv)) h
theorem e9u {x o : BitVec N} (h : x &&& o = x) {v : Nat} (hv : x.getLsbD v = true) : o.getLsbD v = true := by
 rw [<- h, BitVec.getLsbD_and, Bool.and_eq_true] at hv
 exact hv.2
def c9l (N : Nat) (c : List Ins) (X : Nat -> Nat -> Prop) : Prop :=
 (∀ v, ¬ X 0 v) /\ (∀ i v, X i v -> Rc c i /\ v < N) /\ ∀ i (hi : i < c.length), Rc c i -> ∀ w ∈ nx c i, ∀ v, X w.toNat v -> (if usC c i = (v : Int) then c[i].op = 39 else X i v)
def Hd (N : Nat) (c : List Ins) (i v : Nat) : Prop := ∃ X, c9l N c X /\ X i v
theorem Hd.post (N : Nat) (c : List Ins) : c9l N c (Hd N c) := by
 refine ⟨fun v ⟨X, h, hx⟩ => h.1 v hx, fun i v ⟨X, h, hx⟩ => h.2.1 i v hx, fun i hi hr w hw v ⟨X, h, hx⟩ => ?_⟩
 have := h.2.2 i hi hr w hw v hx
 split
 . rename_i e; rw [if_pos e] at this; exact this
 . rename_i e; rw [if_neg e] at this; exact ⟨X, h, this⟩
def edB (o : BitVec N) (s : List (BitVec N) × Bool) (w : Int) : List (BitVec N) × Bool := match s.1[w.toNat]? with
 | none => s
 | some x => if x &&& o = x then s else (s.1.set w.toNat (x &&& o), true)
def edsB (o : BitVec N) (s : List (BitVec N) × Bool) (l : List Int) : List (BitVec N) × Bool := l.foldl (edB o) s
theorem d4t (o : BitVec N) (s : List (BitVec N) × Bool) {l : List Int} {k : Nat} (h : k < l.length) : edsB o s (l.take (k + 1)) = edB o (edsB o s (l.take k)) l[k] := by
 unfold edsB
 rw [List.take_succ_eq_append_getElem h, List.foldl_append]
 rfl
def szG (c : List Ins) (g : List (BitVec N)) : Nat := ((List.range c.length).map fun (i : Nat) => if opAt c ((i : Nat) : Int) = 51 then 0 else cntB (g.getD i 0)).sum
structure Hin (N : Nat) (c : List Ins) (g : List (BitVec N)) : Prop where
 len : g.length = c.length
 up : ∀ X, c9l N c X -> ∀ i v, X i v -> (g.getD i 0).getLsbD v = true
 no : ∀ i, i < c.length -> ¬ Rc c (hd c i) -> g.getD i 0 = 0
 h0 : g.getD 0 0 = 0
def HC (c : List Ins) (g r : List (BitVec N)) (m : Bool) : Prop := (m = false -> ∀ i, i < c.length -> opAt c (i : Int) ≠ 51 -> r.getD i 0 = g.getD i 0) /\ (m = true -> szG c r < szG c g) /\ szG c r <= szG c g
theorem HC.refl (c : List Ins) (g : List (BitVec N)) : HC c g g false := ⟨fun _ _ _ _ => rfl, fun h => (by cases h), Nat.le_refl _⟩
theorem HC.trans {c : List Ins} {g r q : List (BitVec N)} {m m' : Bool} (h : HC c g r m) (h' : HC c r q m') : HC c g q (m' || m) := by
 refine ⟨fun e i hi ho => ?_, fun e => ?_, Nat.le_trans h'.2.2 h.2.2⟩
 . simp only [Bool.or_eq_false_iff] at e
   rw [h'.1 e.1 i hi ho, h.1 e.2 i hi ho]
 . have := h.2.2; have := h'.2.2
   cases m'
   . have := h.2.1 (by simpa using e); omega
   . have := h'.2.1 rfl; omega
theorem a7s {g : List (BitVec N)} {i j : Nat} (h : i < g.length) {x : BitVec N} : (g.set i x).getD j 0 = if i = j then x else g.getD j 0 := by
 rw [List.getD_eq_getElem?_getD, List.getElem?_set]
 by_cases e : i = j
 . subst e; rw [if_pos rfl, if_pos h, if_pos rfl]; rfl
 . rw [if_neg e, if_neg e, List.getD_eq_getElem?_getD]
theorem d0p {c : List Ins} {g : List (BitVec N)} (hl : g.length = c.length) {i : Nat} (hi : i < c.length) {x : BitVec N} : (opAt c (i : Int) = 51 -> szG c (g.set i x) = szG c g) /\ (opAt c (i : Int) ≠ 51 -> szG c (g.set i x) + cntB (g.getD i 0) = szG c g + cntB x) := by
 have := d0q c.length (fun (j : Nat) => if opAt c (j : Int) = 51 then 0 else cntB (g.getD j 0)) (fun (j : Nat) => if opAt c (j : Int) = 51 then 0 else cntB ((g.set i x).getD j 0)) i hi fun j hj => by
  rw [a7s (by omega), if_neg (Ne.symm hj)]
 simp only [a7s (show i < g.length by omega), if_true] at this
 unfold szG
 refine ⟨fun e => ?_, fun e => ?_⟩
 . simp only [e, if_true] at this
   simp only [a7s (show i < g.length by omega)]
   omega
 . simp only [e, if_false] at this
   simp only [a7s (show i < g.length by omega)]
   omega
theorem h0i {c : List Ins} (hc : CodeOk c) {g : List (BitVec N)} {m : Bool} {g0 : List (BitVec N)} (hI : Hin N c g) (hC : HC c g0 g m) {i : Nat} (hr : Rc c i) {w : Int} (hw : w ∈ nx c i) {o : BitVec N}
 (ho : ∀ X, c9l N c X -> ∀ v, X w.toNat v -> o.getLsbD v = true) :
 Hin N c (edB o (g, m) w).1 /\ HC c g0 (edB o (g, m) w).1 (edB o (g, m) w).2 /\ ((edB o (g, m) w).2 = false -> m = false /\ (edB o (g, m) w).1 = g /\ (g.getD w.toNat 0) &&& o = g.getD w.toNat 0) := by
 obtain ⟨h1, h2, h3⟩ := b1d hc hw
 have hrw : Rc c w.toNat := hr.step hw
 have hl : w.toNat < g.length := by rw [hI.len]; exact h2
 unfold edB
 simp only [List.getElem?_eq_getElem hl]
 have hD : g.getD w.toNat 0 = g[w.toNat] := by rw [List.getD_eq_getElem?_getD, List.getElem?_eq_getElem hl]; rfl
 split
 . rename_i e
   exact ⟨hI, hC, fun hm => ⟨hm, rfl, by rw [hD]; exact e⟩⟩
 . rename_i e
   have ho51 : opAt c (w.toNat : Int) ≠ 51 := by rw [opA h2]; exact h3
   refine ⟨⟨by rw [List.length_set]; exact hI.len, fun X hX j v hv => ?_, fun j hj hn => ?_, ?_⟩, ⟨fun h => (by cases h), fun _ => ?_, ?_⟩, fun h => (by cases h)⟩
   . have hu := hI.up X hX j v hv
     simp only [a7s hl]
     split
     . rename_i ej; subst ej
       rw [BitVec.getLsbD_and, ho X hX v hv, <- hD, hu]; rfl
     . exact hu
   . simp only [a7s hl]
     split
     . rename_i ej; subst ej
       rw [a8u h2 h3] at hn
       exact absurd hrw hn
     . exact hI.no j hj hn
   . simp only [a7s hl]
     split
     . rename_i ej
       have := hI.h0
       rw [<- ej, hD] at this
       rw [this]; simp
     . exact hI.h0
   . have s := (d0p hI.len h2 (x := g[w.toNat] &&& o)).2 ho51
     have := d5c e
     have := hC.2.2
     rw [hD] at s
     simp only
     omega
   . have s := (d0p hI.len h2 (x := g[w.toNat] &&& o)).2 ho51
     have := d5c e
     have := hC.2.2
     rw [hD] at s
     simp only
     omega
theorem e2v {c : List Ins} (hc : CodeOk c) {g0 : List (BitVec N)} {i : Nat} (hr : Rc c i) {o : BitVec N} : ∀ (l : List Int) (g : List (BitVec N)) (m : Bool), Hin N c g -> HC c g0 g m -> (∀ w ∈ l, w ∈ nx c i) -> (∀ w ∈ nx c i, ∀ X, c9l N c X -> ∀ v, X w.toNat v -> o.getLsbD v = true) ->
 Hin N c (edsB o (g, m) l).1 /\ HC c g0 (edsB o (g, m) l).1 (edsB o (g, m) l).2 /\ ((edsB o (g, m) l).2 = false -> m = false /\ (edsB o (g, m) l).1 = g /\ ∀ w ∈ l, (g.getD w.toNat 0) &&& o = g.getD w.toNat 0)
 | [], g, m, hI, hC, _, _ => ⟨hI, hC, fun h => ⟨h, rfl, fun _ h => by cases h⟩⟩
 | w :: l, g, m, hI, hC, hl, ho => by
   obtain ⟨h1, h2, h3⟩ := h0i hc hI hC hr (hl w (by simp)) (ho w (hl w (by simp)))
   have e : edsB o (g, m) (w :: l) = edsB o ((edB o (g, m) w).1, (edB o (g, m) w).2) l := rfl
   rw [e]
   generalize edB o (g, m) w = q at h1 h2 h3
   obtain ⟨h4, h5, h6⟩ := e2v hc hr l q.1 q.2 h1 h2 (fun w hw => hl w (by simp [hw])) ho
   refine ⟨h4, h5, fun hm => ?_⟩
   obtain ⟨a1, a2, a3⟩ := h6 hm
   obtain ⟨b1, b2, b3⟩ := h3 a1
   refine ⟨b1, by rw [a2, b2], fun v hv => ?_⟩
   rcases List.mem_cons.1 hv with rfl | hv
   . exact b3
   . have := a3 v hv
     rwa [b2] at this
theorem g2n {c : List Ins} {g : List (BitVec N)} (hI : Hin N c g) {i : Nat} (hi : i < c.length) (hr : Rc c i) {w : Int} (hw : w ∈ nx c i) {X : Nat -> Nat -> Prop} (hX : c9l N c X) {v : Nat} (hv : X w.toNat v) : (aftB c[i] (usC c i) (g.getD i 0)).getLsbD v = true := by
 have h1 := hX.2.2 i hi hr w hw v hv
 rw [c7w (hX.2.1 _ _ hv).2]
 split
 . rename_i e; rw [if_pos e] at h1; simpa using h1
 . rename_i e; rw [if_neg e] at h1; exact hI.up X hX i v h1
structure Hrun (N : Nat) (c : List Ins) (g0 g : List (BitVec N)) (m : Bool) (D : Nat -> Prop) : Prop where
 inn : Hin N c g
 chg : HC c g0 g m
 ed : m = false -> ∀ i (hi : i < c.length), D i -> Rc c i -> ∀ w ∈ nx c i, (g0.getD w.toNat 0) &&& aftB c[i] (usC c i) (g0.getD i 0) = g0.getD w.toNat 0
def stR (c : List Ins) (s : List (BitVec N) × Bool) (i : Nat) : List (BitVec N) × Bool := match c[i]? with
 | none => s
 | some n => edsB (aftB n (usC c i) (s.1.getD i 0)) s (nx c i)
theorem e1h {c : List Ins} {s : List (BitVec N) × Bool} {i : Nat} (h : i < c.length) : stR c s i = edsB (aftB c[i] (usC c i) (s.1.getD i 0)) s (nx c i) := by
 unfold stR
 rw [List.getElem?_eq_getElem h]
theorem Hrun.step {c : List Ins} (hc : CodeOk c) {g0 g : List (BitVec N)} {m : Bool} {D : Nat -> Prop} (h : Hrun N c g0 g m D) {i : Nat} (hi : i < c.length) (hr : Rc c i) : Hrun N c g0 (stR c (g, m) i).1 (stR c (g, m) i).2 (fun j => j = i \/ D j) /\ ((stR c (g, m) i).2 = false -> m = false /\ (stR c (g, m) i).1 = g) := by
 rw [e1h hi]
 obtain ⟨h1, h2, h3⟩ := e2v hc hr (nx c i) g m h.inn h.chg (fun _ h => h) fun w hw X hX v hv => g2n h.inn hi hr hw hX hv
 refine ⟨⟨h1, h2, fun hm j hj hd hrj w hw => ?_⟩, fun hm => ⟨(h3 hm).1, (h3 hm).2.1⟩⟩
 obtain ⟨a1, a2, a3⟩ := h3 hm
 rcases hd with rfl | hd
 . have e1 : g.getD j 0 = g0.getD j 0 := h.chg.1 a1 j hj (by rw [opA hj]; exact hrj.op hc hj)
   obtain ⟨_, b1, b2⟩ := b1d hc hw
   have e2 : g.getD w.toNat 0 = g0.getD w.toNat 0 := h.chg.1 a1 _ b1 (by rw [opA b1]; exact b2)
   have := a3 w hw
   rwa [e1, e2] at this
 . exact h.ed a1 j hj hd hrj w hw
theorem Hrun.skip {c : List Ins} {g0 g : List (BitVec N)} {m : Bool} {D : Nat -> Prop} (h : Hrun N c g0 g m D) {i : Nat} (hr : ¬ Rc c i) : Hrun N c g0 g m (fun j => j = i \/ D j) :=
 ⟨h.inn, h.chg, fun hm j hj hd hrj w hw => by
  rcases hd with rfl | hd
  . exact absurd hrj hr
  . exact h.ed hm j hj hd hrj w hw⟩
theorem Hrun.case {c : List Ins} (hc : CodeOk c) {g0 g : List (BitVec N)} {m : Bool} {D : Nat -> Prop} (h : Hrun N c g0 g m D) {i : Nat} (hi : i + 1 < c.length) (ho : c[i + 1].op = 51) : Hrun N c g0 (g.set (i + 1) (g.getD i 0)) m (fun j => j = i + 1 \/ D j) := by
 have hl : i + 1 < g.length := by rw [h.inn.len]; exact hi
 have ho' : opAt c ((i + 1 : Nat) : Int) = 51 := by rw [opA hi]; exact ho
 have hs := (d0p h.inn.len hi (x := g.getD i 0)).1 ho'
 refine ⟨⟨by rw [List.length_set]; exact h.inn.len, fun X hX j v hv => ?_, fun j hj hn => ?_, ?_⟩, ⟨fun hm j hj hn => ?_, fun hm => by rw [hs]; exact h.chg.2.1 hm, by rw [hs]; exact h.chg.2.2⟩, fun hm j hj hd hrj w hw => ?_⟩
 . rw [a7s hl]
   split
   . rename_i e; subst e
     exact absurd ho ((hX.2.1 _ _ hv).1.op hc hi)
   . exact h.inn.up X hX j v hv
 . rw [a7s hl]
   split
   . rename_i e; subst e
     rw [hd_s hi ho] at hn
     exact h.inn.no i (by omega) hn
   . exact h.inn.no j hj hn
 . rw [a7s hl, if_neg (by omega)]; exact h.inn.h0
 . rw [a7s hl, if_neg (by rintro rfl; exact hn ho')]
   exact h.chg.1 hm j hj hn
 . rcases hd with rfl | hd
   . exact absurd ho (hrj.op hc hi)
   . exact h.ed hm j hj hd hrj w hw
theorem Hrun.mono {c : List Ins} {g0 g : List (BitVec N)} {m : Bool} {D D' : Nat -> Prop} (h : Hrun N c g0 g m D) (hd : ∀ i, i < c.length -> Rc c i -> D' i -> D i) : Hrun N c g0 g m D' :=
 ⟨h.inn, h.chg, fun hm i hi hD hr => h.ed hm i hi (hd i hi hr hD) hr⟩
theorem Hrun.init {c : List Ins} {g : List (BitVec N)} (h : Hin N c g) : Hrun N c g g false (fun _ => False) := ⟨h, HC.refl c g, fun _ _ _ h => h.elim⟩
theorem Hrun.fin {c : List Ins} (hc : CodeOk c) {g0 g : List (BitVec N)} (h0 : Hin N c g0) (h : Hrun N c g0 g false (fun _ => True)) {i : Nat} (hi : i < c.length) (hr : Rc c i) {v : Nat} (hv : v < N) : (g.getD i 0).getLsbD v = true ↔ Hd N c i v := by
 have same : ∀ j (hj : j < c.length), Rc c j -> g.getD j 0 = g0.getD j 0 := fun j hj hrj => h.chg.1 rfl j hj (by rw [opA hj]; exact hrj.op hc hj)
 constructor
 . intro hg
   refine ⟨fun j v => Rc c j /\ v < N /\ (g0.getD j 0).getLsbD v = true, ⟨fun v hx => ?_, fun j v hx => ⟨hx.1, hx.2.1⟩, fun j hj hrj w hw v hx => ?_⟩, hr, hv, by rw [<- same i hi hr]; exact hg⟩
   . have := hx.2.2
     rw [h0.h0] at this
     simp at this
   . have := e9u (h.ed rfl j hj trivial hrj w hw) hx.2.2
     rw [c7w hx.2.1] at this
     split
     . rename_i e; rw [if_pos e] at this; simpa using this
     . rename_i e; rw [if_neg e] at this; exact ⟨hrj, hx.2.1, this⟩
 . rintro ⟨X, hX, hx⟩
   exact h.inn.up X hX i v hx
open Classical in
noncomputable def g0B (N : Nat) (c : List Ins) : List (BitVec N) := (List.range c.length).map fun i => if Rc c (hd c i) /\ 0 < i then BitVec.allOnes N else 0
theorem a2u (c : List Ins) : (g0B N c).length = c.length := by simp [g0B]
theorem c6s {c : List Ins} {i : Nat} (h : i < c.length) : (Rc c (hd c i) /\ 0 < i -> (g0B N c).getD i 0 = BitVec.allOnes N) /\ (¬ (Rc c (hd c i) /\ 0 < i) -> (g0B N c).getD i 0 = 0) := by
 unfold g0B
 rw [List.getD_eq_getElem?_getD, List.getElem?_map, List.getElem?_range h]
 exact ⟨fun h => by simp only [Option.map_some, Option.getD_some, if_pos h], fun h => by simp only [Option.map_some, Option.getD_some, if_neg h]⟩
theorem g9j {c : List Ins} (hc : CodeOk c) : Hin N c (g0B N c) := by
 refine ⟨a2u c, fun X hX i v hv => ?_, fun i hi hn => (c6s hi).2 fun h => hn h.1, (c6s hc.ne).2 fun h => by omega⟩
 obtain ⟨hr, hvN⟩ := hX.2.1 i v hv
 have hi := hr.lt hc
 have h0 : 0 < i := by
  rcases Nat.eq_zero_or_pos i with h | h
  . subst h; exact absurd hv (hX.1 v)
  . exact h
 rw [(c6s hi).1 ⟨by rw [a8u hi (hr.op hc hi)]; exact hr, h0⟩]
 simpa using hvN
end Go.Gv
namespace Go.Je
open Go Go.FM Go.Gv Go.Proofs
set_option maxRecDepth 100000
set_option maxHeartbeats 40000000
@[simp] theorem b0z : Program.eqGuardType Tryz.prog (Program.depth Tryz.prog) 68 = Bool.false := by kernel_rfl
@[simp] theorem g6p : arE Tryz.prog 35 = Option.none := by kernel_rfl
@[simp] theorem g6m : arE Tryz.prog 72 = Option.none := by kernel_rfl
@[simp] theorem g6l : arE Tryz.prog 79 = Option.none := by kernel_rfl
@[simp] theorem g6k : arE Tryz.prog 87 = Option.none := by kernel_rfl
@[simp] theorem g0z : arT Tryz.prog 130 = (Option.some (3, 1)) := by kernel_rfl
@[simp] theorem g6d : arT Tryz.prog 37 = Option.none := by kernel_rfl
@[simp] theorem g6a : arT Tryz.prog 64 = Option.none := by kernel_rfl
@[simp] theorem g5z : arT Tryz.prog 70 = Option.none := by kernel_rfl
@[simp] theorem g5y : arT Tryz.prog 74 = Option.none := by kernel_rfl
@[simp] theorem g5x : arT Tryz.prog 84 = Option.none := by kernel_rfl
@[simp] theorem f2p : b7q Tryz.prog 68 = Bool.false := by kernel_rfl
@[simp] theorem g5t : byT Tryz.prog 37 = (Option.some 24) := by kernel_rfl
@[simp] theorem h0b : byT Tryz.prog 4 = (Option.some 1) := by kernel_rfl
@[simp] theorem g5r : byT Tryz.prog 65 = (Option.some 8) := by kernel_rfl
@[simp] theorem g5q : byT Tryz.prog 68 = (Option.some 8) := by kernel_rfl
@[simp] theorem g5o : byT Tryz.prog 87 = (Option.some 40) := by kernel_rfl
@[simp] theorem e7p : fldT Tryz.prog 72 0 = (Option.some 0) := by kernel_rfl
@[simp] theorem e7o : fldT Tryz.prog 72 1 = (Option.some 4) := by kernel_rfl
@[simp] theorem e7n : fldT Tryz.prog 72 2 = (Option.some 5) := by kernel_rfl
@[simp] theorem e7m : fldT Tryz.prog 72 3 = (Option.some 9) := by kernel_rfl
@[simp] theorem e7l : fldT Tryz.prog 72 4 = (Option.some 10) := by kernel_rfl
@[simp] theorem e7i : fldT Tryz.prog 87 0 = (Option.some 0) := by kernel_rfl
@[simp] theorem e7h : fldT Tryz.prog 87 1 = (Option.some 1) := by kernel_rfl
@[simp] theorem e7g : fldT Tryz.prog 87 2 = (Option.some 2) := by kernel_rfl
@[simp] theorem g0o : fnOk Tryz.prog 11 = Bool.true := by kernel_rfl
@[simp] theorem f2g : fnOk Tryz.prog 121 = Bool.true := by kernel_rfl
@[simp] theorem f1z : fnOk Tryz.prog 129 = Bool.true := by kernel_rfl
@[simp] theorem g0m : fnOk Tryz.prog 13 = Bool.true := by kernel_rfl
@[simp] theorem f1y : fnOk Tryz.prog 130 = Bool.true := by kernel_rfl
@[simp] theorem f1x : fnOk Tryz.prog 131 = Bool.true := by kernel_rfl
@[simp] theorem f1v : fnOk Tryz.prog 133 = Bool.true := by kernel_rfl
@[simp] theorem f1u : fnOk Tryz.prog 134 = Bool.true := by kernel_rfl
@[simp] theorem f1t : fnOk Tryz.prog 135 = Bool.true := by kernel_rfl
@[simp] theorem f1s : fnOk Tryz.prog 136 = Bool.true := by kernel_rfl
@[simp] theorem f1r : fnOk Tryz.prog 137 = Bool.true := by kernel_rfl
@[simp] theorem f1q : fnOk Tryz.prog 138 = Bool.true := by kernel_rfl
@[simp] theorem g0l : fnOk Tryz.prog 14 = Bool.true := by kernel_rfl
@[simp] theorem g0j : fnOk Tryz.prog 16 = Bool.true := by kernel_rfl
@[simp] theorem f1f : fnOk Tryz.prog 163 = Bool.true := by kernel_rfl
@[simp] theorem f1d : fnOk Tryz.prog 165 = Bool.true := by kernel_rfl
@[simp] theorem f1b : fnOk Tryz.prog 170 = Bool.true := by kernel_rfl
@[simp] theorem g0h : fnOk Tryz.prog 18 = Bool.true := by kernel_rfl
@[simp] theorem g0g : fnOk Tryz.prog 19 = Bool.true := by kernel_rfl
@[simp] theorem g0f : fnOk Tryz.prog 20 = Bool.true := by kernel_rfl
@[simp] theorem g5m : fnOk Tryz.prog 3 = Bool.true := by kernel_rfl
@[simp] theorem f9z : fnOk Tryz.prog 38 = Bool.true := by kernel_rfl
@[simp] theorem g5l : fnOk Tryz.prog 4 = Bool.true := by kernel_rfl
@[simp] theorem f9x : fnOk Tryz.prog 40 = Bool.true := by kernel_rfl
@[simp] theorem f9w : fnOk Tryz.prog 41 = Bool.true := by kernel_rfl
@[simp] theorem f9v : fnOk Tryz.prog 42 = Bool.true := by kernel_rfl
@[simp] theorem f9u : fnOk Tryz.prog 43 = Bool.true := by kernel_rfl
@[simp] theorem f9t : fnOk Tryz.prog 44 = Bool.true := by kernel_rfl
@[simp] theorem f9q : fnOk Tryz.prog 47 = Bool.true := by kernel_rfl
@[simp] theorem f9p : fnOk Tryz.prog 48 = Bool.true := by kernel_rfl
@[simp] theorem g5k : fnOk Tryz.prog 5 = Bool.true := by kernel_rfl
@[simp] theorem f9n : fnOk Tryz.prog 50 = Bool.true := by kernel_rfl
@[simp] theorem f9m : fnOk Tryz.prog 51 = Bool.true := by kernel_rfl
@[simp] theorem f8z : fnOk Tryz.prog 78 = Bool.true := by kernel_rfl
@[simp] theorem f8y : fnOk Tryz.prog 79 = Bool.true := by kernel_rfl
@[simp] theorem f8x : fnOk Tryz.prog 80 = Bool.true := by kernel_rfl
@[simp] theorem f8w : fnOk Tryz.prog 81 = Bool.true := by kernel_rfl
@[simp] theorem f8v : fnOk Tryz.prog 82 = Bool.true := by kernel_rfl
@[simp] theorem f8u : fnOk Tryz.prog 83 = Bool.true := by kernel_rfl
@[simp] theorem f8t : fnOk Tryz.prog 84 = Bool.true := by kernel_rfl
@[simp] theorem f8s : fnOk Tryz.prog 85 = Bool.true := by kernel_rfl
@[simp] theorem f8q : fnOk Tryz.prog 87 = Bool.true := by kernel_rfl
@[simp] theorem g5j : hasT Tryz.prog 5 = Bool.true := by kernel_rfl
@[simp] theorem f8i : intT Tryz.prog 68 = (Option.some Go.IntKind.u64) := by kernel_rfl
@[simp] theorem g5d : kdT Tryz.prog 68 = (Option.some (Go.FM.Kd.int Go.IntKind.u64)) := by kernel_rfl
@[simp] theorem f8f : ldT Tryz.prog 130 = (Option.some (Option.some 3)) := by kernel_rfl
@[simp] theorem f7x : ldT Tryz.prog 174 = (Option.some Option.none) := by kernel_rfl
@[simp] theorem g4v : ldT Tryz.prog 37 = (Option.some Option.none) := by kernel_rfl
@[simp] theorem g4q : ldT Tryz.prog 65 = (Option.some Option.none) := by kernel_rfl
@[simp] theorem g4p : ldT Tryz.prog 68 = (Option.some Option.none) := by kernel_rfl
@[simp] theorem g4o : ldT Tryz.prog 70 = (Option.some Option.none) := by kernel_rfl
@[simp] theorem g4m : ldT Tryz.prog 84 = (Option.some Option.none) := by kernel_rfl
@[simp] theorem g4l : ldT Tryz.prog 87 = (Option.some (Option.some 3)) := by kernel_rfl
@[simp] theorem f7t : nilT Tryz.prog 68 = Option.none := by kernel_rfl
@[simp] theorem e2k : a5x Tryz.prog 35 = (Option.some ((0, 1) :: ((1, 1) :: ((2, 1) :: ((3, 1) :: []))))) := by kernel_rfl
@[simp] theorem e2h : a5x Tryz.prog 72 = (Option.some ((0, 4) :: ((4, 1) :: ((5, 4) :: ((9, 1) :: ((10, 1) :: [])))))) := by kernel_rfl
@[simp] theorem e2g : a5x Tryz.prog 79 = (Option.some ((0, 1) :: ((1, 1) :: []))) := by kernel_rfl
@[simp] theorem e2f : a5x Tryz.prog 87 = (Option.some ((0, 1) :: ((1, 1) :: ((2, 1) :: [])))) := by kernel_rfl
@[simp] theorem f7q : slT Tryz.prog 130 = Option.none := by kernel_rfl
@[simp] theorem g4a : slT Tryz.prog 37 = (Option.some (4, 1)) := by kernel_rfl
@[simp] theorem g3x : slT Tryz.prog 64 = (Option.some (65, 1)) := by kernel_rfl
@[simp] theorem g3w : slT Tryz.prog 70 = (Option.some (68, 1)) := by kernel_rfl
@[simp] theorem g3v : slT Tryz.prog 74 = (Option.some (37, 1)) := by kernel_rfl
@[simp] theorem g3u : slT Tryz.prog 84 = (Option.some (87, 3)) := by kernel_rfl
@[simp] theorem g3s : stT Tryz.prog 68 = Option.none := by kernel_rfl
@[simp] theorem f7f : strT Tryz.prog 37 = Bool.false := by kernel_rfl
@[simp] theorem g3q : strT Tryz.prog 5 = Bool.false := by kernel_rfl
@[simp] theorem f7c : strT Tryz.prog 64 = Bool.false := by kernel_rfl
@[simp] theorem f7b : strT Tryz.prog 70 = Bool.false := by kernel_rfl
@[simp] theorem f7a : strT Tryz.prog 74 = Bool.false := by kernel_rfl
@[simp] theorem f6z : strT Tryz.prog 84 = Bool.false := by kernel_rfl
@[simp] theorem f6x : szT Tryz.prog 130 = (Option.some 3) := by kernel_rfl
@[simp] theorem f6p : szT Tryz.prog 174 = (Option.some 1) := by kernel_rfl
@[simp] theorem g3j : szT Tryz.prog 37 = (Option.some 1) := by kernel_rfl
@[simp] theorem g3f : szT Tryz.prog 68 = (Option.some 1) := by kernel_rfl
@[simp] theorem g3e : szT Tryz.prog 70 = (Option.some 1) := by kernel_rfl
@[simp] theorem g3d : szT Tryz.prog 72 = (Option.some 11) := by kernel_rfl
@[simp] theorem g3b : szT Tryz.prog 84 = (Option.some 1) := by kernel_rfl
@[simp] theorem g3a : szT Tryz.prog 87 = (Option.some 3) := by kernel_rfl
@[simp] theorem e6x : a5c Tryz.prog 174 = (Option.some (Go.FM.FV.nilf :: [])) := by kernel_rfl
@[simp] theorem f0j : a5c Tryz.prog 37 = (Option.some (Go.FM.FV.nils :: [])) := by kernel_rfl
@[simp] theorem f0g : a5c Tryz.prog 65 = (Option.some (Go.FM.FV.nilp :: [])) := by kernel_rfl
@[simp] theorem f0f : a5c Tryz.prog 68 = (Option.some ((Go.FM.FV.int Go.IntKind.u64 0) :: [])) := by kernel_rfl
@[simp] theorem f0e : a5c Tryz.prog 72 = (Option.some (Go.FM.FV.nils :: (Go.FM.FV.nils :: (Go.FM.FV.nils :: ((Go.FM.FV.int Go.IntKind.i64 0) :: ((Go.FM.FV.int Go.IntKind.i64 0) :: ((Go.FM.FV.str (ByteArray.mk (Array.mk []))) :: ((Go.FM.FV.int Go.IntKind.i64 0) :: ((Go.FM.FV.int Go.IntKind.i64 0) :: (Go.FM.FV.nils :: (Go.FM.FV.nils :: (Go.FM.FV.nils :: [])))))))))))) := by kernel_rfl
@[simp] theorem f0c : a5c Tryz.prog 84 = (Option.some (Go.FM.FV.nils :: [])) := by kernel_rfl
@[simp] theorem f0b : a5c Tryz.prog 87 = (Option.some ((Go.FM.FV.int Go.IntKind.i64 0) :: ((Go.FM.FV.int Go.IntKind.i64 0) :: (Go.FM.FV.nils :: [])))) := by kernel_rfl
end Go.Je
namespace Go.Gv
open Go Go.FM
set_option maxRecDepth 100000
set_option maxHeartbeats 40000000
variable {N : Nat}
theorem h0j (o : BitVec N) (g : List (BitVec N)) (m : Bool) (w : Int) : edB o (g, m) w = ((edB o (g, false) w).1, (edB o (g, false) w).2 || m) := by
 unfold edB
 simp only
 split
 . simp
 . split
   . simp
   . simp
theorem d4u (o : BitVec N) : ∀ (l : List Int) (g : List (BitVec N)) (m : Bool), edsB o (g, m) l = ((edsB o (g, false) l).1, (edsB o (g, false) l).2 || m)
 | [], g, m => by simp [edsB]
 | w :: l, g, m => by
   have e : ∀ m, edsB o (g, m) (w :: l) = edsB o (edB o (g, m) w) l := fun _ => rfl
   rw [e, e, h0j o g m w, d4u o l _ ((edB o (g, false) w).2 || m)]
   rw [show edB o (g, false) w = ((edB o (g, false) w).1, (edB o (g, false) w).2) from rfl, d4u o l _ (edB o (g, false) w).2]
   simp only [Bool.or_assoc]
theorem d7b (c : List Ins) (g : List (BitVec N)) (m : Bool) (i : Nat) : stR c (g, m) i = ((stR c (g, false) i).1, (stR c (g, false) i).2 || m) := by
 unfold stR
 split
 . simp
 . exact d4u ..
def pcC (c : List Ins) (s : List (BitVec N) × Bool) (i : Nat) : List (BitVec N) × Bool := if opAt c (i : Int) = 51 then (s.1.set i (s.1.getD (i - 1) 0), s.2) else stR c s i
def rndC (c : List Ins) (a : Nat) (g : List (BitVec N)) : Nat -> List (BitVec N) × Bool
 | 0 => (g, false)
 | k + 1 => pcC c (rndC c a g k) (a + k)
structure Crun (N : Nat) (c : List Ins) (g0 g : List (BitVec N)) (m : Bool) (D : Nat -> Prop) : Prop where
 run : Hrun N c g0 g m D
 cs : m = false -> ∀ i (hi : i < c.length), D i -> c[i].op = 51 -> g.getD i 0 = g0.getD (hd c i) 0
theorem Crun.pc {c : List Ins} (hc : CodeOk c) {g0 g : List (BitVec N)} {m m1 : Bool} {D : Nat -> Prop} {i : Nat} (h : Crun N c g0 g (m1 || m) D) (hi : i < c.length) (hr : Rc c (hd c i)) (hp : c[i].op = 51 -> D (i - 1)) : Crun N c g0 (pcC c (g, m1) i).1 ((pcC c (g, m1) i).2 || m) (fun j => j = i \/ D j) := by
 unfold pcC
 rw [opA hi]
 split
 . rename_i e
   obtain ⟨j, rfl⟩ : ∃ j, i = j + 1 := ⟨i - 1, by
    have : i ≠ 0 := fun e0 => by subst e0; exact hc.h0 hi e
    omega⟩
   simp only [Nat.add_sub_cancel] at hp ⊢
   refine ⟨h.run.case hc hi e, fun hm k hk hd hk5 => ?_⟩
   rw [a7s (by rw [h.run.inn.len]; exact hi)]
   split
   . rename_i ek; subst ek
     rw [hd_s hi e]
     by_cases e5 : c[j].op = 51
     . exact h.cs hm j (by omega) (hp e) e5
     . rw [a8u (by omega) e5]
       exact h.run.chg.1 hm j (by omega) (by rw [opA (by omega)]; exact e5)
   . rename_i ek
     exact h.cs hm k hk (hd.resolve_left fun e => ek e.symm) hk5
 . rename_i e
   rw [a8u hi e] at hr
   have e1 : ((stR c (g, m1) i).2 || m) = (stR c (g, m1 || m) i).2 := by
    rw [d7b c g (m1 || m), d7b c g m1]
    simp only [Bool.or_assoc]
   have e2 : (stR c (g, m1) i).1 = (stR c (g, m1 || m) i).1 := by rw [d7b c g (m1 || m), d7b c g m1]
   rw [e1, e2]
   obtain ⟨h1, h2⟩ := h.run.step hc hi hr
   refine ⟨h1, fun hm k hk hd hk5 => ?_⟩
   obtain ⟨a1, a2⟩ := h2 hm
   rw [a2]
   exact h.cs a1 k hk (hd.resolve_left (by rintro rfl; exact e hk5)) hk5
theorem Crun.mono {c : List Ins} {g0 g : List (BitVec N)} {m : Bool} {D D' : Nat -> Prop} (h : Crun N c g0 g m D) (hd : ∀ i, i < c.length -> D' i -> D i) : Crun N c g0 g m D' :=
 ⟨h.run.mono fun i hi _ h => hd i hi h, fun hm i hi hD => h.cs hm i hi (hd i hi hD)⟩
theorem Crun.block {c : List Ins} (hc : CodeOk c) {g0 g : List (BitVec N)} {m : Bool} {D : Nat -> Prop} (h : Crun N c g0 g m D) {j : Nat} (hj : j < (blks c).length) (hr : RB c j) : ∀ k, (blks c)[j].1 + k <= (blks c)[j].2 -> Crun N c g0 (rndC c (blks c)[j].1 g k).1 ((rndC c (blks c)[j].1 g k).2 || m) (fun i => ((blks c)[j].1 <= i /\ i < (blks c)[j].1 + k) \/ D i)
 | 0, _ => h.mono fun i _ hd => hd.elim (fun h => by omega) id
 | k + 1, hk => by
   have ih := Crun.block hc h hj hr k (by omega)
   obtain ⟨B, hB⟩ := b3a hj
   have hi : (blks c)[j].1 + k < c.length := by omega
   have h1 := d5o hc hj (g8c hc hr hj) ((blks c)[j].1 + k) (by omega) (by omega)
   have := Crun.pc hc (i := (blks c)[j].1 + k) (m1 := (rndC c (blks c)[j].1 g k).2) (g := (rndC c (blks c)[j].1 g k).1) ih hi h1 fun e5 => by
    left
    have : k ≠ 0 := fun e0 => by
     subst e0
     have hl : (a5l c)[(blks c)[j].1]? = some true := by
      have := (B.num _ (Nat.le_refl _) B.lt).1
      cases hz : (blks c)[j].1 with
      | zero =>
        have := ((a7b hc).2 (.inl rfl) : isM (a5l c) 0).2
        simpa using this
      | succ m =>
        rw [hz] at this
        by_cases hl : (a5l c)[m + 1]? = some true
        . exact hl
        . rw [c1e hl] at this
          have := b7y c m; omega
     exact c3p hc hl (by omega) e5
    omega
   exact this.mono fun i _ hd => hd.elim (fun h => by
    by_cases e : i = (blks c)[j].1 + k
    . exact .inl e
    . exact .inr (.inl (by omega))) fun h => .inr (.inr h)
theorem f5t {c : List Ins} (hc : CodeOk c) : ∀ i, i < c.length -> nmF c (hd c i) = nmF c i
 | 0, _ => rfl
 | i + 1, h => by
   by_cases e : c[i + 1].op = 51
   . rw [hd_s h e, f5t hc i (by omega)]
     have : ¬ (a5l c)[i + 1]? = some true := fun hl => c3p hc hl h e
     unfold nmF
     rw [c2r this]
   . rw [a8u h e]
open Classical in
noncomputable def hdB (N : Nat) (c : List Ins) (i : Nat) : BitVec N := if h : ∃ b : BitVec N, ∀ v, v < N -> (b.getLsbD v = true ↔ Hd N c (hd c i) v) then h.choose else 0
noncomputable def hdG (N : Nat) (c : List Ins) : List (BitVec N) := (List.range c.length).map (hdB N c)
theorem a8g (c : List Ins) : (hdG N c).length = c.length := by simp [hdG]
theorem e1x {c : List Ins} {i : Nat} {b : BitVec N} (h : ∀ v, v < N -> (b.getLsbD v = true ↔ Hd N c (hd c i) v)) : hdB N c i = b := by
 have hh : ∃ b : BitVec N, ∀ v, v < N -> (b.getLsbD v = true ↔ Hd N c (hd c i) v) := ⟨b, h⟩
 unfold hdB
 rw [dif_pos hh]
 exact e3c fun v hv => Bool.eq_iff_iff.2 ((hh.choose_spec v hv).trans (h v hv).symm)
theorem f5u {c : List Ins} {g : List (BitVec N)} (hl : g.length = c.length) (h : ∀ i, i < c.length -> ∀ v, v < N -> ((g.getD i 0).getLsbD v = true ↔ Hd N c (hd c i) v)) : g = hdG N c := by
 refine List.ext_getElem (by rw [a8g, hl]) fun i h1 h2 => ?_
 simp only [hdG, List.getElem_map, List.getElem_range]
 have := h i (by omega)
 rw [List.getD_eq_getElem?_getD, List.getElem?_eq_getElem h1] at this
 exact (e1x this).symm
theorem Hrun.mem {c : List Ins} (hc : CodeOk c) {g0 g : List (BitVec N)} (h0 : Hin N c g0) (h : Hrun N c g0 g false (fun _ => True)) (i : Nat) (hi : i < c.length) (v : Nat) (hv : v < N) : (g.getD (hd c i) 0).getLsbD v = true ↔ Hd N c (hd c i) v := by
 have hl : hd c i < c.length := by have := c3u c i; omega
 by_cases hr : Rc c (hd c i)
 . exact h.fin hc h0 hl hr hv
 . have e : hd c (hd c i) = hd c i := a8u hl (d3p hc i hi hl)
   rw [h.inn.no _ hl (by rw [e]; exact hr)]
   constructor
   . intro h; simp at h
   . intro h; exact absurd ((Hd.post N c).2.1 _ _ h).1 hr
theorem Crun.mem {c : List Ins} (hc : CodeOk c) {g0 g : List (BitVec N)} {D : Nat -> Prop} (h0 : Hin N c g0) (h : Crun N c g0 g false D) (hD : ∀ i, i < c.length -> RB c (nmF c i) -> D i) (i : Nat) (hi : i < c.length) (v : Nat) (hv : v < N) : (g.getD i 0).getLsbD v = true ↔ Hd N c (hd c i) v := by
 have hT : Hrun N c g0 g false (fun _ => True) := h.run.mono fun i hi hr _ => hD i hi (f4r hc hr)
 have hm := hT.mem hc h0 i hi v hv
 have hl : hd c i < c.length := by have := c3u c i; omega
 by_cases e : c[i].op = 51
 . by_cases hr : Rc c (hd c i)
   . have h1 := h.cs rfl i hi (hD i hi (by rw [<- f5t hc i hi]; exact f4r hc hr)) e
     have h2 := h.run.chg.1 rfl (hd c i) hl (by rw [opA hl]; exact d3p hc i hi hl)
     rw [h1, <- h2]; exact hm
   . rw [h.run.inn.no i hi hr]
     constructor
     . intro h; simp at h
     . intro h; exact absurd ((Hd.post N c).2.1 _ _ h).1 hr
 . rw [a8u hi e] at hm ⊢
   exact hm
structure Csw (N : Nat) (c : List Ins) (ord : List Int) (k : Nat) (g0 g : List (BitVec N)) (m : Bool) : Prop where
 run : Crun N c g0 g m (fun i => ∃ q, q < k /\ ∃ hq : q < ord.length, (nmF c i : Int) = ord[q])
theorem Csw.init {c : List Ins} {ord : List Int} {g : List (BitVec N)} (h : Hin N c g) : Csw N c ord 0 g g false := ⟨⟨(Hrun.init h).mono fun i _ _ ⟨q, h, _⟩ => by omega, fun _ i _ ⟨q, h, _⟩ => by omega⟩⟩
theorem Csw.step {c : List Ins} (hc : CodeOk c) {ord : List Int} (ho : e0p c ord) {k : Nat} (hk : k < ord.length) {g0 g : List (BitVec N)} {m : Bool} (h : Csw N c ord k g0 g m) : ∃ j : Nat, ord[k] = (j : Int) /\ ∃ hj : j < (blks c).length, (blks c)[j].1 < (blks c)[j].2 /\ (blks c)[j].2 <= c.length /\
 Csw N c ord (k + 1) g0 (rndC c (blks c)[j].1 g ((blks c)[j].2 - (blks c)[j].1)).1 ((rndC c (blks c)[j].1 g ((blks c)[j].2 - (blks c)[j].1)).2 || m) := by
 obtain ⟨h0, hR⟩ := (ho _).1 (List.getElem_mem hk)
 have hj := e4z hc hR
 obtain ⟨B, hB⟩ := b3a hj
 have hlt := B.lt
 refine ⟨ord[k].toNat, by omega, hj, hlt, hB, ⟨?_⟩⟩
 have := Crun.block hc h.run hj hR ((blks c)[ord[k].toNat].2 - (blks c)[ord[k].toNat].1) (by omega)
 refine this.mono ?_
 rintro i hi ⟨q, h1, h2, h3⟩
 by_cases e : q = k
 . subst e
   left
   obtain ⟨g1, g2, g3⟩ := c2q hc hi
   have e2 : ord[q].toNat = nmF c i := by omega
   simp only [e2]
   omega
 . exact .inr ⟨q, by omega, h2, h3⟩
def muG (c : List Ins) (g : List (BitVec N)) (m : Bool) : Nat := if m then szG c g + 1 else 0
theorem Csw.mu {c : List Ins} {ord : List Int} {k : Nat} {g0 g : List (BitVec N)} {m : Bool} (h : Csw N c ord k g0 g m) : muG c g m < muG c g0 true := by
 unfold muG
 cases m
 . simp
 . have := h.run.run.chg.2.1 rfl
   simp; omega
theorem Csw.fin {c : List Ins} (hc : CodeOk c) {ord : List Int} (ho : e0p c ord) {g0 g : List (BitVec N)} (h0 : Hin N c g0) (h : Csw N c ord ord.length g0 g false) : g = hdG N c /\ ∀ i, i < c.length -> ∀ v, v < N -> ((g.getD i 0).getLsbD v = true ↔ Hd N c (hd c i) v) := by
 have := h.run.mem hc h0 fun i hi hR => by
  have hm : (nmF c i : Int) ∈ ord := (ho _).2 ⟨by omega, by simpa using hR⟩
  obtain ⟨q, hq, e⟩ := List.mem_iff_getElem.1 hm
  exact ⟨q, hq, hq, e.symm⟩
 exact ⟨f5u h.run.run.inn.len this, this⟩
theorem e4m {l : List Int} {v : Int} : v ∈ srt l ↔ v ∈ l := (List.mergeSort_perm l _).mem_iff
theorem f3p (l : List Int) : (srt l).Pairwise (· <= ·) := by
 have := List.pairwise_mergeSort (le := fun a b : Int => decide (a <= b)) (fun a b c h1 h2 => by simp at *; omega) (fun a b => by simp; omega) l
 exact this.imp fun h => by simpa using h
theorem b6e {d : Array Int} {j : Nat} : Lib.keeps d j = true ↔ j = 0 \/ d[j]! ≠ d[j - 1]! := by
 unfold Lib.keeps
 simp
theorem c4m {l : List Int} (h : l.Pairwise (· <= ·)) : inc (Lib.compact l) := by
 unfold inc Lib.compact Lib.compactUpTo
 rw [List.pairwise_map]
 have hr : ((List.range l.length).filter (Lib.keeps l.toArray)).Pairwise (· < ·) := List.Pairwise.filter _ List.pairwise_lt_range
 refine List.Pairwise.imp_of_mem (fun {i j} hi hj hij => ?_) hr
 rw [List.mem_filter, List.mem_range] at hi hj
 have hk := (b6e.1 hj.2).resolve_left (by omega)
 have hp := List.pairwise_iff_getElem.1 h
 have e : ∀ k (hk : k < l.length), l.toArray[k]! = l[k] := fun k hk => by simp [hk]
 rw [e j hj.1, e (j - 1) (by omega)] at hk
 rw [e i hi.1, e j hj.1]
 have h1 := hp (j - 1) j (by omega) hj.1 (by omega)
 by_cases e2 : i = j - 1
 . subst e2; omega
 . have h2 := hp i (j - 1) hi.1 (by omega) (by omega)
   omega
theorem c4k {l : List Int} {v : Int} : v ∈ Lib.compact l ↔ v ∈ l := by
 unfold Lib.compact Lib.compactUpTo
 have e : ∀ k (hk : k < l.length), l.toArray[k]! = l[k] := fun k hk => by simp [hk]
 simp only [List.mem_map, List.mem_filter, List.mem_range]
 constructor
 . rintro ⟨k, ⟨hk, _⟩, rfl⟩
   rw [e k hk]; exact List.getElem_mem hk
 . intro h
   obtain ⟨k, hk, rfl⟩ := List.mem_iff_getElem.1 h
   induction k with
   | zero => exact ⟨0, ⟨hk, b6e.2 (.inl rfl)⟩, e 0 hk⟩
   | succ k ih =>
     by_cases e2 : l[k + 1] = l[k]
     . obtain ⟨q, h1, h2⟩ := ih (by omega) (List.getElem_mem (by omega))
       exact ⟨q, h1, by rw [h2, e2]⟩
     . refine ⟨k + 1, ⟨hk, b6e.2 (.inr ?_)⟩, e _ hk⟩
       rw [e (k + 1) hk, Nat.add_sub_cancel, e k (by omega)]
       exact e2
theorem c2c : ∀ (s a : List Int), inc a -> inc (s.foldl a5p a)
 | [], _, h => h
 | x :: s, a, h => c2c s _ (c6m h)
theorem e6h : inc [] := List.Pairwise.nil
theorem b5o (s : List Int) : Lib.compact (srt s) = s.foldl a5p [] :=
 c0e (c4m (f3p s)) (c2c s [] e6h) fun v => by
  rw [c4k, e4m, b6b]; simp
def a7e (s : BitVec 64) : List Int := ((List.range 64).filter fun v => s.getLsbD v).map fun (v : Nat) => (v : Int)
theorem e9i : a7e 0 = [] := by simp [a7e]
theorem c2s (s : BitVec 64) : (a7e s).length <= 64 := by
 unfold a7e
 rw [List.length_map]
 exact Nat.le_trans (List.length_filter_le _ _) (by simp)
theorem c3n {t m j : Nat} : (2 ^ t * (2 * m + 1)).testBit j = if j < t then false else (2 * m + 1).testBit (j - t) := by
 have := Nat.testBit_two_pow_mul_add (2 * m + 1) (b := 0) (i := t) (Nat.two_pow_pos t) j
 simpa using this
theorem d8h {t m j : Nat} : (2 ^ t * (2 * m + 1) - 1).testBit j = if j < t then true else (2 * m).testBit (j - t) := by
 have hp := Nat.two_pow_pos t
 have e : 2 ^ t * (2 * m + 1) - 1 = 2 ^ t * (2 * m) + (2 ^ t - 1) := by
  rw [Nat.mul_add, Nat.mul_one]; omega
 rw [e, Nat.testBit_two_pow_mul_add (2 * m) (by omega) j]
 split
 . rw [Nat.testBit_two_pow_sub_one]; simp [*]
 . rfl
theorem d2f {m j : Nat} : (2 * m + 1).testBit j = if j = 0 then true else (2 * m).testBit j := by
 cases j with
 | zero => simp
 | succ j => simp [Nat.testBit_succ]; congr 1; omega
theorem e5y {t m j : Nat} : ((2 ^ t * (2 * m + 1)) &&& (2 ^ t * (2 * m + 1) - 1)).testBit j = (decide (j ≠ t) && (2 ^ t * (2 * m + 1)).testBit j) := by
 rw [Nat.testBit_and, c3n, d8h]
 by_cases h : j < t
 . simp [h]
 . simp only [if_neg h]
   rw [d2f]
   by_cases e : j = t
   . subst e; simp
   . have : ¬ j - t = 0 := by omega
     simp [this, e]
theorem e5x {s : BitVec 64} (h : s ≠ 0) : ∃ m, s.toNat = 2 ^ Lib.ctz 64 s.toNat * (2 * m + 1) /\ Lib.ctz 64 s.toNat < 64 := by
 have h0 : s.toNat ≠ 0 := fun e => h (BitVec.eq_of_toNat_eq (by simpa using e))
 unfold Lib.ctz
 rw [if_neg h0]
 exact Lib.ctzFrom_spec 64 s.toNat (by omega) s.isLt
def lowT (s : BitVec 64) (t : Nat) : Prop := t < 64 /\ s.getLsbD t = true /\ ∀ j, j < t -> s.getLsbD j = false
theorem d5p {s r : BitVec 64} {t : Nat} (h : lowT s t) (hr : ∀ j, j < 64 -> r.getLsbD j = (decide (j ≠ t) && s.getLsbD j)) : a7e s = (t : Int) :: a7e r := by
 obtain ⟨h1, h2, h3⟩ := h
 have e : List.range 64 = List.range t ++ t :: (List.range' (t + 1) (63 - t)) := by
  have h5 := List.range'_append_1 (s := 0) (m := t) (n := 63 - t + 1)
  rw [show t + (63 - t + 1) = 64 by omega, Nat.zero_add, List.range'_succ] at h5
  rw [List.range_eq_range', List.range_eq_range', h5]
 unfold a7e
 have f1 : (List.range t).filter (fun v => s.getLsbD v) = [] := by
  rw [List.filter_eq_nil_iff]; intro v hv; rw [h3 v (List.mem_range.1 hv)]; simp
 have f2 : (List.range t).filter (fun v => r.getLsbD v) = [] := by
  rw [List.filter_eq_nil_iff]; intro v hv
  have := List.mem_range.1 hv
  rw [hr v (by omega), h3 v this]; simp
 have f3 : (List.range' (t + 1) (63 - t)).filter (fun v => s.getLsbD v) = (List.range' (t + 1) (63 - t)).filter (fun v => r.getLsbD v) := by
  refine List.filter_congr fun v hv => ?_
  have := List.mem_range'_1.1 hv
  rw [hr v (by omega)]
  have : v ≠ t := by omega
  simp [this]
 rw [e, List.filter_append, List.filter_append, f1, f2, List.nil_append, List.nil_append, List.filter_cons_of_pos (by simpa using h2), List.filter_cons_of_neg (by rw [hr t h1]; simp), f3]
 rfl
theorem b8r {s : BitVec 64} (h : s ≠ 0) : a7e s = (Lib.ctz 64 s.toNat : Int) :: a7e (s &&& (s - 1)) := by
 obtain ⟨m, e, ht⟩ := e5x h
 generalize Lib.ctz 64 s.toNat = t at e ht
 have hs : ∀ j, s.getLsbD j = (2 ^ t * (2 * m + 1)).testBit j := fun j => by rw [BitVec.getLsbD, e]
 have h0 : s.toNat ≠ 0 := fun e => h (BitVec.eq_of_toNat_eq (by simpa using e))
 have hsub : (s - 1).toNat = s.toNat - 1 := by
  rw [BitVec.toNat_sub]
  have := s.isLt
  simp; omega
 refine d5p ⟨ht, ?_, fun j hj => ?_⟩ fun j hj => ?_
 . rw [hs, c3n, if_neg (by omega), Nat.sub_self, d2f]; rfl
 . rw [hs, c3n, if_pos hj]
 . rw [hs, <- e5y, BitVec.getLsbD, BitVec.toNat_and, hsub, e]
theorem f5b {s : BitVec 64} (h : s ≠ 0) : s &&& (s - 1) ≠ s /\ (a7e (s &&& (s - 1))).length < (a7e s).length := by
 have e := b8r h
 refine ⟨fun h2 => ?_, by rw [e]; simp⟩
 rw [h2] at e
 have := congrArg List.length e
 simp at this
def badI (x : Pts) (c : List Ins) (f i : Nat) : Prop := ∃ hi : i < c.length, lkO c[i].op = true /\ usC c i < 0 /\ (0 : Int) ∈ rg x f c[i].a
noncomputable def dsI (c : List Ins) (i : Nat) (s : BitVec 64) : BitVec 64 := match c[i]? with
 | none => s
 | some n => if n.op = 40 /\ 0 <= usC c i /\ ((hdG 64 c).getD i 0).getLsbD (usC c i).toNat = false then s &&& ~~~BitVec.twoPow 64 (usC c i).toNat else s
noncomputable def dsK (c : List Ins) (s : BitVec 64) : Nat -> BitVec 64
 | 0 => s
 | k + 1 => dsI c k (dsK c s k)
noncomputable def dsF (p : Pg) : Nat -> BitVec 64
 | 0 => BitVec.allOnes 64
 | k + 1 => match p.funcs[k]? with
   | none => dsF p k
   | some f => dsK f.code (dsF p k) f.code.length
def BadP (p : Pg) (x : Pts) : Prop := ∃ f, ∃ hf : f < p.funcs.length, ∃ i, badI x p.funcs[f].code f i
open Classical in
noncomputable def b1y (p : Pg) (x : Pts) : BitVec 64 := if BadP p x then 0 else dsF p p.funcs.length
theorem g1k {p : Pg} {k : Nat} (h : k < p.funcs.length) : dsF p (k + 1) = dsK p.funcs[k].code (dsF p k) p.funcs[k].code.length := by
 rw [dsF, List.getElem?_eq_getElem h]
theorem e2x {c : List Ins} {i : Nat} (h : i < c.length) (s : BitVec 64) : dsI c i s = if c[i].op = 40 /\ 0 <= usC c i /\ ((hdG 64 c).getD i 0).getLsbD (usC c i).toNat = false then s &&& ~~~BitVec.twoPow 64 (usC c i).toNat else s := by
 unfold dsI
 rw [List.getElem?_eq_getElem h]
def dsOk (c : List Ins) (i v : Nat) : Prop := ∀ hi : i < c.length, c[i].op = 40 -> usC c i = (v : Int) -> ((hdG 64 c).getD i 0).getLsbD v = true
theorem e8m {c : List Ins} {i v : Nat} (hv : v < 64) {s : BitVec 64} : (dsI c i s).getLsbD v = true ↔ s.getLsbD v = true /\ dsOk c i v := by
 by_cases hi : i < c.length
 . rw [e2x hi]
   split
   . rename_i h
     rw [BitVec.getLsbD_and, BitVec.getLsbD_not, BitVec.getLsbD_twoPow]
     by_cases e : usC c i = (v : Int)
     . simp only [e, Int.toNat_natCast] at h ⊢
       simp [hv]
       intro _ hd
       have := hd hi h.1 e
       rw [h.2.2] at this; cases this
     . have : ¬ (usC c i).toNat = v := by omega
       simp [hv, this]
       exact fun _ _ _ e2 => absurd e2 e
   . rename_i h
     refine ⟨fun hs => ⟨hs, fun _ h1 h2 => ?_⟩, fun h => h.1⟩
     cases hb : ((hdG 64 c).getD i 0).getLsbD v with
     | true => rfl
     | false => exact absurd ⟨h1, by omega, by rw [h2]; exact hb⟩ h
 . have e : dsI c i s = s := by unfold dsI; rw [List.getElem?_eq_none (by omega)]
   rw [e]
   exact ⟨fun h => ⟨h, fun hi' => absurd hi' hi⟩, fun h => h.1⟩
theorem d4v {c : List Ins} {v : Nat} (hv : v < 64) {s : BitVec 64} : ∀ k, (dsK c s k).getLsbD v = true ↔ s.getLsbD v = true /\ ∀ i, i < k -> dsOk c i v
 | 0 => ⟨fun h => ⟨h, fun i hi => by omega⟩, fun h => h.1⟩
 | k + 1 => by
   rw [dsK, e8m hv, d4v hv k]
   refine ⟨fun ⟨⟨h1, h2⟩, h3⟩ => ⟨h1, fun i hi => ?_⟩, fun ⟨h1, h2⟩ => ⟨⟨h1, fun i hi => h2 i (by omega)⟩, h2 k (by omega)⟩⟩
   by_cases e : i = k
   . subst e; exact h3
   . exact h2 i (by omega)
theorem d4w {p : Pg} {v : Nat} (hv : v < 64) : ∀ k, k <= p.funcs.length -> ((dsF p k).getLsbD v = true ↔ ∀ f, ∀ hf : f < p.funcs.length, f < k -> ∀ i, dsOk p.funcs[f].code i v)
 | 0, _ => by
   constructor
   . intro _ f _ h; omega
   . intro _; rw [dsF, BitVec.getLsbD_allOnes]; simpa using hv
 | k + 1, hk => by
   rw [g1k (by omega), d4v hv, d4w hv k (by omega)]
   refine ⟨fun ⟨h1, h2⟩ f hf hk2 i => ?_, fun h => ⟨fun f hf h2 i => h f hf (by omega) i, fun i _ => h k (by omega) (by omega) i⟩⟩
   by_cases e : f = k
   . subst e
     intro hi
     exact h2 i hi hi
   . exact h1 f hf (by omega) i
theorem c0p {p : Pg} {x : Pts} {v : Nat} (hv : v < 64) : (b1y p x).getLsbD v = true ↔ ¬ BadP p x /\ ∀ f, ∀ hf : f < p.funcs.length, ∀ i, dsOk p.funcs[f].code i v := by
 unfold b1y
 split
 . rename_i h
   exact ⟨fun h => by simp at h, fun h2 => absurd h h2.1⟩
 . rename_i h
   rw [d4w hv _ (Nat.le_refl _)]
   exact ⟨fun h1 => ⟨h, fun f hf => h1 f hf hf⟩, fun h1 f hf _ => h1.2 f hf⟩
theorem f2z {p : Pg} (hp : VOk p) (hg : p.globals.length <= 64) {f : FnD} (hf : f ∈ p.funcs) (i : Nat) : usC f.code i < 64 := by
 have := (f2y hp hf i).2
 omega
theorem e0d {X : Pts} {c : List Ins} {k i : Nat} (hi : i < c.length) {S S' y t : BitVec 64} {u : Int} (hu : usC c i = u) (hu64 : u < 64) {g : BitVec 64} (hg : (hdG 64 c).getD i 0 = g) {zn : Nat} (ht : BitVec.twoPow 64 u.toNat = t) (hz : (g &&& t).toNat = zn) (hy : S &&& ~~~t = y) (hK : S' = dsI c i S) {r : List Int} (hr : rg X k c[i].a = r) :
 (¬ lkO c[i].op = true /\ S' = S /\ ¬ badI X c k i) \/ (lkO c[i].op = true /\ 0 <= u /\ c[i].op = 40 /\ zn = 0 /\ S' = y /\ ¬ badI X c k i) \/ (lkO c[i].op = true /\ 0 <= u /\ c[i].op = 40 /\ ¬ zn = 0 /\ S' = S /\ ¬ badI X c k i) \/
  (lkO c[i].op = true /\ 0 <= u /\ ¬ c[i].op = 40 /\ S' = S /\ ¬ badI X c k i) \/ (lkO c[i].op = true /\ ¬ 0 <= u /\ (0 : Int) ∉ r /\ S' = S /\ ¬ badI X c k i) \/ (lkO c[i].op = true /\ ¬ 0 <= u /\ (0 : Int) ∈ r /\ badI X c k i) := by
 rw [e2x hi, hu, hg, ht, hy] at hK
 have hbad : badI X c k i ↔ lkO c[i].op = true /\ u < 0 /\ (0 : Int) ∈ r := by
  unfold badI
  rw [<- hr, <- hu]
  exact ⟨fun ⟨_, h⟩ => h, fun h => ⟨hi, h⟩⟩
 have hbit : 0 <= u -> (zn = 0 ↔ g.getLsbD u.toNat = false) := fun h0 => by
  rw [<- hz, <- ht]
  constructor
  . intro h
    have h2 : g &&& BitVec.twoPow 64 u.toNat = 0 := BitVec.eq_of_toNat_eq (by simpa using h)
    have := congrArg (fun b => b.getLsbD u.toNat) h2
    have hv : u.toNat < 64 := by omega
    simpa [BitVec.getLsbD_and, BitVec.getLsbD_twoPow, hv] using this
  . intro h
    have h2 : g &&& BitVec.twoPow 64 u.toNat = 0 := BitVec.eq_of_getLsbD_eq fun j hj => by
     rw [BitVec.getLsbD_and, BitVec.getLsbD_twoPow]
     by_cases e : u.toNat = j
     . subst e; simp [h]
     . simp [e]
    rw [h2]; rfl
 by_cases hl : lkO c[i].op = true
 . by_cases h0 : 0 <= u
   . have nb : ¬ badI X c k i := fun h => by have := (hbad.1 h).2.1; omega
     by_cases h4 : c[i].op = 40
     . by_cases hz0 : zn = 0
       . rw [if_pos ⟨h4, h0, (hbit h0).1 hz0⟩] at hK
         exact .inr (.inl ⟨hl, h0, h4, hz0, hK, nb⟩)
       . rw [if_neg fun h => hz0 ((hbit h0).2 h.2.2)] at hK
         exact .inr (.inr (.inl ⟨hl, h0, h4, hz0, hK, nb⟩))
     . rw [if_neg fun h => h4 h.1] at hK
       exact .inr (.inr (.inr (.inl ⟨hl, h0, h4, hK, nb⟩)))
   . rw [if_neg fun h => h0 h.2.1] at hK
     by_cases hm : (0 : Int) ∈ r
     . exact .inr (.inr (.inr (.inr (.inr ⟨hl, h0, hm, hbad.2 ⟨hl, by omega, hm⟩⟩))))
     . exact .inr (.inr (.inr (.inr (.inl ⟨hl, h0, hm, hK, fun h => hm (hbad.1 h).2.2⟩))))
 . rw [if_neg fun h => hl (by simp [lkO, h.1])] at hK
   exact .inl ⟨hl, hK, fun h => hl (hbad.1 h).1⟩
def unl (nm : ByteArray) (k : Int) : FnD := ⟨nm, 0, 1, [⟨18, 0, k, 0, 0⟩, ⟨40, 0, 0, 0, 0⟩, ⟨30, -1, 0, 0, 0⟩]⟩
def addU (p : Pg) (nm : ByteArray) (k : Int) : Pg := { p with funcs := p.funcs ++ [unl nm k] }
section
variable {p : Pg} {nm : ByteArray} {k : Int}
theorem a7t : (addU p nm k).funcs.length = p.funcs.length + 1 := by simp [addU]
theorem c9k {f : Nat} (h : f < p.funcs.length) : (addU p nm k).funcs[f]? = p.funcs[f]? := by
 unfold addU
 simp only
 rw [List.getElem?_append_left h]
theorem b7f {f : Nat} (h : f < p.funcs.length) (h' : f < (addU p nm k).funcs.length) : (addU p nm k).funcs[f] = p.funcs[f] := by
 have := c9k (nm := nm) (k := k) h
 rw [List.getElem?_eq_getElem h', List.getElem?_eq_getElem h] at this
 exact Option.some.inj this
theorem e0o : (addU p nm k).funcs[p.funcs.length]? = some (unl nm k) := by simp [addU]
theorem d5t {f : Nat} (h : f < (addU p nm k).funcs.length) (hf : ¬ f < p.funcs.length) : f = p.funcs.length /\ (addU p nm k).funcs[f] = unl nm k := by
 rw [a7t] at h
 have e : f = p.funcs.length := by omega
 subst e
 have := e0o (p := p) (nm := nm) (k := k)
 rw [List.getElem?_eq_getElem (by rw [a7t]; omega)] at this
 exact ⟨rfl, Option.some.inj this⟩
theorem d5u : ∀ i, i <= p.funcs.length -> sitP (addU p nm k).funcs i = sitP p.funcs i
 | 0, _ => rfl
 | i + 1, h => by rw [sitP, sitP, d5u i (by omega), c9k (by omega)]
theorem c0t : a0t (addU p nm k) = a0t p := by
 unfold a0t
 rw [a7t, sitP, d5u _ (Nat.le_refl _), e0o]
 have : sitC p.funcs.length (unl nm k).code (unl nm k).code.length = [] := by
  simp [sitC, unl, List.range_succ, opAt, alO]
 simp [this]
theorem e9s {v : Int} (h0 : 0 <= v) (h1 : v < (p.funcs.length : Int)) : fnAt (addU p nm k) v = fnAt p v := by
 unfold fnAt
 rw [List.getD_eq_getElem?_getD, List.getD_eq_getElem?_getD, c9k (by omega)]
theorem g2g {v : Nat} (h : v < p.funcs.length) : a5j (addU p nm k).funcs (v : Int) = a5j p.funcs (v : Int) := by
 unfold a5j
 rw [Int.toNat_natCast, c9k h]
theorem g2h : oneP (addU p nm k).funcs (addU p nm k).funcs.length = oneP p.funcs p.funcs.length := by
 unfold oneP
 rw [a7t, List.range_succ, List.filter_append]
 have h1 : (List.filter (fun (j : Nat) => decide (a5j (addU p nm k).funcs (j : Int) = 1)) [p.funcs.length]) = [] := by
  have : a5j (addU p nm k).funcs ((p.funcs.length : Nat) : Int) = 0 := by
   unfold a5j
   rw [Int.toNat_natCast, e0o]; rfl
  simp [this]
 rw [h1, List.append_nil]
 congr 1
 refine List.filter_congr fun j hj => ?_
 rw [g2g (List.mem_range.1 hj)]
theorem g2i (s : Int × Int) : a9w (addU p nm k) s = a9w p s \/ (a9w p s = ins0 /\ (a9w (addU p nm k) s).op ≠ 23 /\ (a9w (addU p nm k) s).op ≠ 24) := by
 unfold a9w
 by_cases h : s.1.toNat < p.funcs.length
 . rw [c9k h]; exact .inl rfl
 . right
   rw [List.getElem?_eq_none (by omega)]
   refine ⟨rfl, ?_⟩
   by_cases e : s.1.toNat = p.funcs.length
   . rw [e, e0o]
     have key : ∀ j, ((unl nm k).code.getD j ins0).op ≠ 23 /\ ((unl nm k).code.getD j ins0).op ≠ 24 := fun j => by
      match j with
      | 0 => simp [unl]
      | 1 => simp [unl]
      | 2 => simp [unl]
      | j + 3 => simp [unl, ins0]
     exact key _
   . rw [List.getElem?_eq_none (by rw [a7t]; omega)]
     simp [ins0]
theorem h1c {x y : Pts} (hr : ∀ f a, f < p.funcs.length -> rg x f a = rg y f a) (o : Int) : wrR (addU p nm k) x o = wrR p y o := by
 unfold wrR
 refine decide_eq_decide.2 ⟨?_, ?_⟩
 . rintro ⟨i, hi, n, hn, h⟩
   by_cases hl : i < p.funcs.length
   . rw [b7f hl hi] at hn
     exact ⟨i, hl, n, hn, by rwa [hr _ _ hl, hr _ _ hl] at h⟩
   . obtain ⟨_, e⟩ := d5t hi hl
     rw [e] at hn
     simp only [unl, List.mem_cons, List.not_mem_nil, or_false] at hn
     rcases hn with rfl | rfl | rfl <;> simp at h
 . rintro ⟨i, hi, n, hn, h⟩
   exact ⟨i, by rw [a7t]; omega, n, by rw [b7f hi]; exact hn, by rwa [hr _ _ hi, hr _ _ hi]⟩
theorem e9r {x y : Pts} (hs : x.sites = y.sites) (hr : ∀ f a, f < p.funcs.length -> rg x f a = rg y f a) (o : Int) : a5u (addU p nm k) x o = a5u p y o := by
 unfold a5u
 simp only [g2h, h1c hr, hs]
 split
 . rcases g2i (p := p) (nm := nm) (k := k) (y.sites.getD o.toNat (0, 0)) with e | ⟨e, h1, h2⟩
   . rw [e]
   . rw [e, if_neg h1, if_neg (fun h => h2 h.1)]
     simp [ins0]
 . rfl
theorem d3z (hp : VOk p) (hm : 0 < p.funcs.length) {y : Pts} {o v : Int} (h : v ∈ a5u p y o) : v.toNat < p.funcs.length := by
 unfold a5u at h
 simp only at h
 have one : v ∈ oneP p.funcs p.funcs.length -> v.toNat < p.funcs.length := fun h => by
  unfold oneP at h
  obtain ⟨j, hj, rfl⟩ := List.mem_map.1 h
  have := List.mem_range.1 (List.mem_filter.1 hj).1
  omega
 generalize hn : (if 0 < o then a9w p (y.sites.getD o.toNat (0, 0)) else ins0) = n at h
 split at h
 . cases h
 split at h
 . rename_i h24
   rw [List.mem_singleton] at h
   subst h
   have hin : ∃ f ∈ p.funcs, n ∈ f.code := by
    split at hn
    . unfold a9w at hn
      split at hn
      . rename_i f hf
        by_cases hl : (y.sites.getD o.toNat (0, 0)).2.toNat < f.code.length
        . refine ⟨f, List.mem_of_getElem? hf, ?_⟩
          rw [List.getD_eq_getElem?_getD, List.getElem?_eq_getElem hl] at hn
          rw [<- hn]; exact List.getElem_mem hl
        . rw [List.getD_eq_getElem?_getD, List.getElem?_eq_none (by omega)] at hn
          rw [<- hn] at h24; simp [ins0] at h24
      . rw [<- hn] at h24; simp [ins0] at h24
    . rw [<- hn] at h24; simp [ins0] at h24
   obtain ⟨f, hf, hnf⟩ := hin
   have := (hp.ins f hf n hnf).b
   rw [h24.1] at this
   simp [opR, rR] at this
   omega
 . exact one h
theorem d5w (hp : VOk p) (hm : 0 < p.funcs.length) {x y : Pts} (hs : x.sites = y.sites) (hr : ∀ f a, f < p.funcs.length -> rg x f a = rg y f a) (hcl : ∀ o, cl x o = cl y o) {f pc : Nat} (hf : f < p.funcs.length) {n : Ins} (hn : n ∈ p.funcs[f].code) : a3z (addU p nm k) f pc n x ↔ a3z p f pc n y := by
 have hb := (hp.ins _ (List.getElem_mem hf) n hn).b
 have rf := fun a => hr f a hf
 have hcall : n.op = 26 \/ n.op = 28 \/ n.op = 31 -> 0 <= n.b /\ n.b < (p.funcs.length : Int) := fun h => by
  rcases h with h | h | h <;> rw [h] at hb <;> simp [opR, rR] at hb <;> omega
 have hfu := fun o => e9r (nm := nm) (k := k) hs hr o
 have key : ∀ (P P' Q Q' : Prop) (c : Prop) [Decidable c], (c -> (P ↔ P')) -> (¬ c -> (Q ↔ Q')) -> ((if c then P else Q) ↔ (if c then P' else Q')) := fun P P' Q Q' c _ h1 h2 => by
  split
  . exact h1 (by assumption)
  . exact h2 (by assumption)
 unfold a3z
 rw [c0t]
 refine key _ _ _ _ _ (fun _ => by rw [rf]) fun _ => ?_
 refine key _ _ _ _ _ (fun _ => ?_) fun _ => ?_
 . simp only [rf, hcl]
 refine key _ _ _ _ _ (fun _ => by rw [rf, rf]) fun _ => ?_
 refine key _ _ _ _ _ (fun _ => by simp only [rf, hcl]) fun _ => ?_
 refine key _ _ _ _ _ (fun _ => by simp only [rf, hcl]) fun _ => ?_
 refine key _ _ _ _ _ (fun _ => by simp only [rf, hcl]) fun _ => ?_
 refine key _ _ _ _ _ (fun _ => by simp only [rf, hcl]) fun _ => ?_
 refine key _ _ _ _ _ (fun _ => by simp only [rf, hcl]) fun _ => ?_
 refine key _ _ _ _ _ (fun _ => key _ _ _ _ _ (fun _ => by simp only [rf, hcl]) (fun _ => by simp only [rf, hcl])) fun _ => ?_
 refine key _ _ _ _ _ (fun hc => ?_) fun _ => ?_
 . obtain ⟨h0, h1⟩ := hcall hc
   have rb := fun a => hr n.b.toNat a (by omega)
   simp only [rf, rb, e9s h0 h1]
 refine key _ _ _ _ _ (fun _ => ?_) fun _ => Iff.rfl
 constructor
 . intro h o ho j hj
   have := h o (by rw [rf]; exact ho) j (by rw [hfu]; exact hj)
   rwa [hr _ _ (d3z hp hm hj)] at this
 . intro h o ho j hj
   rw [hfu] at hj
   rw [hr _ _ (d3z hp hm hj)]
   exact h o (by rw [rf] at ho; exact ho) j hj
def addX (x : Pts) : Pts := ⟨x.sites, x.regs ++ [[[0]]], x.cells⟩
theorem d5z {x : Pts} {f : Nat} (h : f < x.regs.length) (a : Int) : rg (addX x) f a = rg x f a := by
 unfold rg addX
 simp only
 have e : (x.regs ++ [[[0]]]).getD f [] = x.regs.getD f [] := by
  rw [List.getD_eq_getElem?_getD, List.getD_eq_getElem?_getD, List.getElem?_append_left h]
 rw [e]
theorem e9v (x : Pts) : rg (addX x) x.regs.length 0 = [0] := by
 unfold rg addX
 simp
theorem c7u (hv : a3g p = true) (hm : 0 < p.funcs.length) {x y : Pts} (hx : Least p x) (hy : Least (addU p nm k) y) {f : Nat} (hf : f < p.funcs.length) (a o : Int) : o ∈ rg y f a ↔ o ∈ rg x f a := by
 have hp := vOk hv
 have hrn := hx.form.rn
 constructor
 . intro ho
   have hX : a5w (addU p nm k) (addX x) := fun i hi j hj => by
    by_cases hl : i < p.funcs.length
    . have e := b7f hl hi
      have hj' : j < p.funcs[i].code.length := by rw [<- e]; exact hj
      have e2 : (addU p nm k).funcs[i].code[j] = p.funcs[i].code[j] := by simp only [e]
      rw [e2]
      exact (d5w hp hm (x := addX x) (y := x) rfl (fun f a hf => d5z (by omega) a) (fun o => rfl) hl (List.getElem_mem hj')).2 (hx.conds i hl j hj')
    . obtain ⟨rfl, e⟩ := d5t hi hl
      have hj' : j < 3 := by rw [e] at hj; exact hj
      have e2 : (addU p nm k).funcs[p.funcs.length].code[j] = (unl nm k).code[j]'(by exact hj') := by simp only [e]; rfl
      rw [e2]
      have : j = 0 \/ j = 1 \/ j = 2 := by omega
      rcases this with rfl | rfl | rfl
      . simp only [unl, List.getElem_cons_zero, a3z, if_true]
        rw [<- hrn, e9v]
        intro o ho; exact ho
      . simp [unl, a3z, alO]
      . simp [unl, a3z, alO]
   have hs := hy.least (addX x) hX (by rw [c0t]; exact hx.form.sites)
   have := a8y hs f a o ho
   rwa [d5z (by omega)] at this
 . intro ho
   have hY : a5w p y := fun i hi j hj => by
    have h2 := hy.conds i (by rw [a7t]; omega) j (by rw [b7f hi]; exact hj)
    have e2 : ((addU p nm k).funcs[i]'(by rw [a7t]; omega)).code[j]'(by rw [b7f hi]; exact hj) = p.funcs[i].code[j] := by simp only [b7f hi]
    rw [e2] at h2
    exact (d5w hp hm (x := y) (y := y) rfl (fun _ _ _ => rfl) (fun _ => rfl) hi (List.getElem_mem hj)).1 h2
   have hs := hx.least y hY (by rw [hy.form.sites, c0t])
   exact a8y hs f a o ho
end
end Go.Gv
