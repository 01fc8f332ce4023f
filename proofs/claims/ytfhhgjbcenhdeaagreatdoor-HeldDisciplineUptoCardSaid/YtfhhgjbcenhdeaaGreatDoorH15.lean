/- Parts of the proof. -/
import Derived.Test.YtfhhgjbcenhdeaaGreatDoorH13
set_option linter.unusedSimpArgs false
set_option linter.unusedVariables false
namespace Go.Je
open Go Go.FM Go.Gv Go.Proofs
set_option maxRecDepth 100000
set_option maxHeartbeats 40000000
theorem d9f {l : List FnD} {n : Nat} {z : FnD} (h : l[n]? = some z) : (fns l)[n]? = some [.str z.name, .int .i64 z.params, .int .i64 z.regs, .list 5 (inss z.code)] := by simp [fns, h, FnD.row]
theorem c21 (p : Pg) (hf : p.funcs.length <= 2000000) (hg : p.globals.length <= 2000000) (hl : p.layouts.length <= 2000000) (hb : ∀ x ∈ p.layouts, x.length <= 2000000) (hfc : ∀ x ∈ p.funcs, x.code.length <= 2000000) : PC Tryz.prog Gl 17 [.agg [.list 4 (fns p.funcs), .list 2 (gbs p.globals), .list 1 (lays p.layouts), .int .i64 p.main]] (.bool (a3g p)) := by
 rcases c8z p with ⟨h1, hh⟩ | ⟨h1, h2, hh⟩ | ⟨h1, h2, h3, hh⟩ | ⟨h1, h2, h3, h4, hh⟩ | ⟨h1, h2, h3, h4, h5, hh⟩ | ⟨h1, h2, h3, h4, h5, z, hm, hz, h6, hh⟩ | ⟨h1, h2, h3, h4, h5, z, hm, hz, h6, hh⟩
 all_goals try (have hz2 := d9f hz)
 all_goals
  refine a9p (res := [.tmp 2]) 8 119 [] (fun d ix => d :: ix) (fn := Tryz.f17) (by kernel_rfl) (by rfl) (by rfl) (by rfl) (by simp) (by decide) ?_
  repeat' first
   | ((with_reducible refine a2c ?_); refine a8n (fun y : {i : Nat // i <= p.globals.length /\ gOk p i} => (⟨[.agg [.list 4 (fns p.funcs), .list 2 (gbs p.globals), .list 1 (lays p.layouts), .int .i64 p.main], .ptr [1] 4 0 0, .bool false, .int .i64 (y.1 : Int), .undef, .undef, .undef, .undef], [], hpL [([1], .cells 26 4 [[.list 4 (fns p.funcs), .list 2 (gbs p.globals), .list 1 (lays p.layouts), .int .i64 p.main]])], []⟩ : Fs)) (fun y => p.globals.length - y.1) ⟨0, by simp, g9g p⟩ (a4m [] (fun _ h => h) (by rfl) ?_ ?_ ?_) ?_; (focus (simp [*, SIMF, a0c, a0e, a0m, a1d, a0u, a0b, a0f, a0o, a1f, a1g, a0d, a0j, a0r, a1q, a1r, a0g, a0p, a0s, a1o, a1p, a0a, a0i, a0l, a1e, a0w, List.take_of_length_le, List.filter_append, *]; done)); (focus (simp [*, SIMF, a0c, a0e, a0m, a1d, a0u, a0b, a0f, a0o, a1f, a1g, a0d, a0j, a0r, a1q, a1r, a0g, a0p, a0s, a1o, a1p, a0a, a0i, a0l, a1e, a0w, List.take_of_length_le, List.filter_append]; done)); (focus (simp [*, SIMF, a0c, a0e, a0m, a1d, a0u, a0b, a0f, a0o, a1f, a1g, a0d, a0j, a0r, a1q, a1r, a0g, a0p, a0s, a1o, a1p, a0a, a0i, a0l, a1e, a0w, List.take_of_length_le, List.filter_append, *]; done)); rintro ⟨i, hi, hk⟩; (try dsimp only at hi hk); rcases a1y hi with hlt | ⟨hlt, rfl⟩; rotate_left; have hgk := hk; rotate_left; have wi := wli hlt (by omega); rcases d5h (p.globals[i]'hlt).name with ⟨n1, n2⟩ | ⟨n1, n2⟩; rotate_left; rcases d9c (p.globals[i]'hlt).kind with ⟨k1, k2⟩ | ⟨k0, k1, k2⟩ | ⟨k0, k1, k2⟩)
   | ((with_reducible refine a2c ?_); refine a8n (fun y : {j : Nat // j <= i /\ gDi p i j} => (⟨[.agg [.list 4 (fns p.funcs), .list 2 (gbs p.globals), .list 1 (lays p.layouts), .int .i64 p.main], .ptr [1] 4 0 0, .bool false, .int .i64 (i : Int), .ptr [4] 2 0 0, .int .i64 (y.1 : Int), .undef, .undef], [], hpL [([1], .cells 26 4 [[.list 4 (fns p.funcs), .list 2 (gbs p.globals), .list 1 (lays p.layouts), .int .i64 p.main]]), ([4], .cells 79 2 [[.str (p.globals[i]'hlt).name, .int .i64 (p.globals[i]'hlt).kind]])], []⟩ : Fs)) (fun y => i - y.1) ⟨0, by simp, g9i p i⟩ (a4m [] (fun _ h => h) (by rfl) ?_ ?_ ?_) ?_; (focus (simp [*, SIMF, a0c, a0e, a0m, a1d, a0u, a0b, a0f, a0o, a1f, a1g, a0d, a0j, a0r, a1q, a1r, a0g, a0p, a0s, a1o, a1p, a0a, a0i, a0l, a1e, a0w, List.take_of_length_le, List.filter_append, *]; done)); (focus (simp [*, SIMF, a0c, a0e, a0m, a1d, a0u, a0b, a0f, a0o, a1f, a1g, a0d, a0j, a0r, a1q, a1r, a0g, a0p, a0s, a1o, a1p, a0a, a0i, a0l, a1e, a0w, List.take_of_length_le, List.filter_append]; done)); (focus (simp [*, SIMF, a0c, a0e, a0m, a1d, a0u, a0b, a0f, a0o, a1f, a1g, a0d, a0j, a0r, a1q, a1r, a0g, a0p, a0s, a1o, a1p, a0a, a0i, a0l, a1e, a0w, List.take_of_length_le, List.filter_append, *]; done)); rintro ⟨j, hj, hd⟩; (try dsimp only at hj hd); rcases a1y hj with hjl | ⟨hjl, rfl⟩; have hjg : j < p.globals.length := (by omega); have wj := wli hjl (by omega); rcases c7d (p.globals[j]'hjg).name.data.toList (p.globals[i]'hlt).name.data.toList with ⟨q1, q2⟩ | ⟨q1, q2⟩)
   | ((with_reducible refine a2c ?_); refine a8n (fun y : {i : Nat // i <= p.funcs.length /\ fOk p i} => (⟨[.agg [.list 4 (fns p.funcs), .list 2 (gbs p.globals), .list 1 (lays p.layouts), .int .i64 p.main], .ptr [1] 4 0 0, .bool false, .undef, .undef, .undef, .int .i64 (y.1 : Int), .undef], [], hpL [([1], .cells 26 4 [[.list 4 (fns p.funcs), .list 2 (gbs p.globals), .list 1 (lays p.layouts), .int .i64 p.main]])], []⟩ : Fs)) (fun y => p.funcs.length - y.1) ⟨0, by simp, h0f p⟩ (a4m [] (fun _ h => h) (by rfl) ?_ ?_ ?_) ?_; (focus (simp [*, SIMF, a0c, a0e, a0m, a1d, a0u, a0b, a0f, a0o, a1f, a1g, a0d, a0j, a0r, a1q, a1r, a0g, a0p, a0s, a1o, a1p, a0a, a0i, a0l, a1e, a0w, List.take_of_length_le, List.filter_append, *]; done)); (focus (simp [*, SIMF, a0c, a0e, a0m, a1d, a0u, a0b, a0f, a0o, a1f, a1g, a0d, a0j, a0r, a1q, a1r, a0g, a0p, a0s, a1o, a1p, a0a, a0i, a0l, a1e, a0w, List.take_of_length_le, List.filter_append]; done)); (focus (simp [*, SIMF, a0c, a0e, a0m, a1d, a0u, a0b, a0f, a0o, a1f, a1g, a0d, a0j, a0r, a1q, a1r, a0g, a0p, a0s, a1o, a1p, a0a, a0i, a0l, a1e, a0w, List.take_of_length_le, List.filter_append, *]; done)); rintro ⟨i, hi, hk⟩; (try dsimp only at hi hk); rcases a1y hi with hlt | ⟨hlt, rfl⟩; have wi := wli hlt (by omega); have hcc := hfc _ (List.getElem_mem hlt); cases hfn : fnR p (p.funcs[i]'hlt))
   | ((with_reducible refine a2c ?_); refine a8n (fun y : {j : Nat // j <= i /\ fDi p i j} => (⟨[.agg [.list 4 (fns p.funcs), .list 2 (gbs p.globals), .list 1 (lays p.layouts), .int .i64 p.main], .ptr [1] 4 0 0, .bool false, .undef, .undef, .undef, .int .i64 (i : Int), .int .i64 (y.1 : Int)], [], hpL [([1], .cells 26 4 [[.list 4 (fns p.funcs), .list 2 (gbs p.globals), .list 1 (lays p.layouts), .int .i64 p.main]])], []⟩ : Fs)) (fun y => i - y.1) ⟨0, by simp, h0h p i⟩ (a4m [] (fun _ h => h) (by rfl) ?_ ?_ ?_) ?_; (focus (simp [*, SIMF, a0c, a0e, a0m, a1d, a0u, a0b, a0f, a0o, a1f, a1g, a0d, a0j, a0r, a1q, a1r, a0g, a0p, a0s, a1o, a1p, a0a, a0i, a0l, a1e, a0w, List.take_of_length_le, List.filter_append, *]; done)); (focus (simp [*, SIMF, a0c, a0e, a0m, a1d, a0u, a0b, a0f, a0o, a1f, a1g, a0d, a0j, a0r, a1q, a1r, a0g, a0p, a0s, a1o, a1p, a0a, a0i, a0l, a1e, a0w, List.take_of_length_le, List.filter_append]; done)); (focus (simp [*, SIMF, a0c, a0e, a0m, a1d, a0u, a0b, a0f, a0o, a1f, a1g, a0d, a0j, a0r, a1q, a1r, a0g, a0p, a0s, a1o, a1p, a0a, a0i, a0l, a1e, a0w, List.take_of_length_le, List.filter_append, *]; done)); rintro ⟨j, hj, hd⟩; (try dsimp only at hj hd); rcases a1y hj with hjl | ⟨hjl, rfl⟩; have hjg : j < p.funcs.length := (by omega); have wj := wli hjl (by omega); rcases c7d (p.funcs[j]'hjg).name.data.toList (p.funcs[i]'hlt).name.data.toList with ⟨q1, q2⟩ | ⟨q1, q2⟩)
   | ((with_reducible refine a1m ?_); refine a2a (⟨j + 1, by omega, g9h hd hlt (by omega) (by simpa [Gb.nm] using q2)⟩) (a4m [] (fun _ h => h) (by rfl) ?_ ?_ ?_) (by dsimp only; omega); (focus (simp [*, SIMF, a0c, a0e, a0m, a1d, a0u, a0b, a0f, a0o, a1f, a1g, a0d, a0j, a0r, a1q, a1r, a0g, a0p, a0s, a1o, a1p, a0a, a0i, a0l, a1e, a0w, List.take_of_length_le, List.filter_append, *]; done)); (focus (simp [*, SIMF, a0c, a0e, a0m, a1d, a0u, a0b, a0f, a0o, a1f, a1g, a0d, a0j, a0r, a1q, a1r, a0g, a0p, a0s, a1o, a1p, a0a, a0i, a0l, a1e, a0w, List.take_of_length_le, List.filter_append, *]; done)); (focus (simp [*, SIMF, a0c, a0e, a0m, a1d, a0u, a0b, a0f, a0o, a1f, a1g, a0d, a0j, a0r, a1q, a1r, a0g, a0p, a0s, a1o, a1p, a0a, a0i, a0l, a1e, a0w, List.take_of_length_le, List.filter_append, *]; done)))
   | ((with_reducible refine a1m ?_); refine a2a (⟨j + 1, by omega, h0g hd hlt (by omega) (by simpa [FnD.nm] using q2)⟩) (a4m [] (fun _ h => h) (by rfl) ?_ ?_ ?_) (by dsimp only; omega); (focus (simp [*, SIMF, a0c, a0e, a0m, a1d, a0u, a0b, a0f, a0o, a1f, a1g, a0d, a0j, a0r, a1q, a1r, a0g, a0p, a0s, a1o, a1p, a0a, a0i, a0l, a1e, a0w, List.take_of_length_le, List.filter_append, *]; done)); (focus (simp [*, SIMF, a0c, a0e, a0m, a1d, a0u, a0b, a0f, a0o, a1f, a1g, a0d, a0j, a0r, a1q, a1r, a0g, a0p, a0s, a1o, a1p, a0a, a0i, a0l, a1e, a0w, List.take_of_length_le, List.filter_append, *]; done)); (focus (simp [*, SIMF, a0c, a0e, a0m, a1d, a0u, a0b, a0f, a0o, a1f, a1g, a0d, a0j, a0r, a1q, a1r, a0g, a0p, a0s, a1o, a1p, a0a, a0i, a0l, a1e, a0w, List.take_of_length_le, List.filter_append, *]; done)))
   | ((with_reducible refine a1m ?_); refine a2a (⟨_ + 1, by omega, g9f hk hlt (by simpa [Gb.nm] using n2) k2 hd⟩) (a4m [] (fun _ h => h) (by rfl) ?_ ?_ ?_) (by dsimp only; omega); (focus (simp [*, SIMF, a0c, a0e, a0m, a1d, a0u, a0b, a0f, a0o, a1f, a1g, a0d, a0j, a0r, a1q, a1r, a0g, a0p, a0s, a1o, a1p, a0a, a0i, a0l, a1e, a0w, List.take_of_length_le, List.filter_append, *]; done)); (focus (simp [*, SIMF, a0c, a0e, a0m, a1d, a0u, a0b, a0f, a0o, a1f, a1g, a0d, a0j, a0r, a1q, a1r, a0g, a0p, a0s, a1o, a1p, a0a, a0i, a0l, a1e, a0w, List.take_of_length_le, List.filter_append, *]; done)); (focus (simp [*, SIMF, a0c, a0e, a0m, a1d, a0u, a0b, a0f, a0o, a1f, a1g, a0d, a0j, a0r, a1q, a1r, a0g, a0p, a0s, a1o, a1p, a0a, a0i, a0l, a1e, a0w, List.take_of_length_le, List.filter_append, *]; done)))
   | ((with_reducible refine a1m ?_); refine a2a (⟨_ + 1, by omega, h0e hk hlt hfn hd⟩) (a4m [] (fun _ h => h) (by rfl) ?_ ?_ ?_) (by dsimp only; omega); (focus (simp [*, SIMF, a0c, a0e, a0m, a1d, a0u, a0b, a0f, a0o, a1f, a1g, a0d, a0j, a0r, a1q, a1r, a0g, a0p, a0s, a1o, a1p, a0a, a0i, a0l, a1e, a0w, List.take_of_length_le, List.filter_append, *]; done)); (focus (simp [*, SIMF, a0c, a0e, a0m, a1d, a0u, a0b, a0f, a0o, a1f, a1g, a0d, a0j, a0r, a1q, a1r, a0g, a0p, a0s, a1o, a1p, a0a, a0i, a0l, a1e, a0w, List.take_of_length_le, List.filter_append, *]; done)); (focus (simp [*, SIMF, a0c, a0e, a0m, a1d, a0u, a0b, a0f, a0o, a1f, a1g, a0d, a0j, a0r, a1q, a1r, a0g, a0p, a0s, a1o, a1p, a0a, a0i, a0l, a1e, a0w, List.take_of_length_le, List.filter_append, *]; done)))
   | with_reducible first | refine stp ?_ | refine stpK ?_; intro K hK | refine stpC ?_; intro T E hT hE | refine stp2 ?_ ?_ <;> intro h | refine a3m (id := 22) 13 a1v (by kernel_rfl) fun K hK => ?_ | refine a3m (id := 17) 8 a1v (by kernel_rfl) fun K hK => ?_ | refine a3m (id := 12) 9 a1v (by kernel_rfl) fun K hK => ?_ | refine a0x rfl ?_ | refine a2n (c37 _ hl hb) (by simp [nls, nl, *, a0b, a0d, a0g, a0a, a0c]) ?_ | refine hpc (c37 _ hl hb) (by simp [nls, nl, *, a0b, a0d, a0g, a0a, a0c]) ?_ | refine a2n (c38 p _ hcc hf hg hl) (by simp [nls, nl, *, a0b, a0d, a0g, a0a, a0c]) ?_ | refine hpc (c38 p _ hcc hf hg hl) (by simp [nls, nl, *, a0b, a0d, a0g, a0a, a0c]) ?_ | refine a1a rfl (by decide) a0z ?_ | refine a1a rfl (by decide) (a0y (by simp [upd, noH, ext, a5r, a4l, *])) ?_ | refine a2i (by decide) (by kernel_rfl) ?_ | refine a1j (by decide) ?_ | refine Kont.go hK ?_; clear hK K | refine KT.go hT ?_; clear hT hE T E | refine KT.go hE ?_; clear hT hE T E
   | simp [*, -List.all_flatten, -List.all_eq_true, DEFO, -Bool.decide_and, eqV, a0e, a0f, a0j, a0p, a0i, a0c, a0b, a0d, a0g, a0a, a5t, a3i, a3t, a9t, a6g, a2r, Ins.row, FnD.row, Gb.row, a4h, Int.le_sub_one_iff, List.length_drop, Gb.row]
  all_goals first
   | (simp [e3r hh]; done)
   | (have := vf_g hlt (.inl (by simpa [Gb.nm] using n2)); simp [this]; done)
   | (have := vf_g hlt (.inr k2); simp [this]; done)
   | (have := g6x hlt hjl (by simpa [Gb.nm] using q2); simp [this]; done)
   | (have := vf_f hlt hfn; simp [this]; done)
   | (have := g6y hlt hjl (by simpa [FnD.nm] using q2); simp [this]; done)
   | (have := vt hh hgk hk; simp [this]; done)
   | trace_state
end Go.Je
namespace Go.Gv
open Go Go.FM
set_option maxRecDepth 100000
set_option maxHeartbeats 40000000
open Classical in
theorem g1v {N : Nat} (P : Nat -> Prop) : ∀ m, ∃ b : BitVec N, ∀ v, v < N -> (b.getLsbD v = true ↔ v < m /\ P v)
 | 0 => ⟨0, fun v _ => by simp⟩
 | m + 1 => by
   obtain ⟨b, hb⟩ := g1v P m
   by_cases h : P m
   . refine ⟨b ||| BitVec.twoPow N m, fun v hv => ?_⟩
     rw [BitVec.getLsbD_or, BitVec.getLsbD_twoPow, Bool.or_eq_true, hb v hv]
     by_cases e : m = v
     . subst e; simp [hv, h]
     . simp [e]
       intro _; omega
   . refine ⟨b, fun v hv => ?_⟩
     rw [hb v hv]
     constructor
     . rintro ⟨h1, h2⟩; exact ⟨by omega, h2⟩
     . rintro ⟨h1, h2⟩
       by_cases e : v = m
       . subst e; exact absurd h2 h
       . exact ⟨by omega, h2⟩
theorem e6l {N : Nat} {c : List Ins} {i v : Nat} (hv : v < N) : (hdB N c i).getLsbD v = true ↔ Hd N c (hd c i) v := by
 obtain ⟨b, hb⟩ := g1v (N := N) (fun v => Hd N c (hd c i) v) N
 have h2 : ∀ v, v < N -> (b.getLsbD v = true ↔ Hd N c (hd c i) v) := fun v hv => (hb v hv).trans ⟨fun h => h.2, fun h => ⟨hv, h⟩⟩
 rw [e1x h2]
 exact h2 v hv
theorem d3r {N : Nat} {c : List Ins} {i v : Nat} (hi : i < c.length) (hv : v < N) : ((hdG N c).getD i 0).getLsbD v = true ↔ Hd N c (hd c i) v := by
 have : (hdG N c).getD i 0 = hdB N c i := by
  rw [List.getD_eq_getElem?_getD, List.getElem?_eq_getElem (by rw [a8g]; exact hi)]
  simp [hdG]
 rw [this]; exact e6l hv
section
variable {nm : ByteArray} {k : Int}
theorem g7a : stF (unl nm k).code 1 = 0 := by rfl
theorem g7e : dfL (⟨18, 0, k, 0, 0⟩ : Ins) = [0] := by simp [dfL, dfI, rR, rW, a5p]
theorem c9y : usC (unl nm k).code 1 = k := by
 rw [c9w (by simp [unl]), g7a]
 simp only [unl, List.getElem_cons_succ, List.getElem_cons_zero, lkO]
 rw [if_pos (by simp), f3a (by simp) (by omega)]
 simp [wrB, g7e]
theorem f3d : usC (unl nm k).code 0 = -1 := by
 rw [c9w (by simp [unl])]
 simp [unl, lkO]
theorem g7c : hd (unl nm k).code 1 = 1 := by
 refine a8u (by simp [unl]) (by simp [unl])
theorem g7b (v : Nat) : ¬ Hd 64 (unl nm k).code 1 v := fun h => by
 have hp := Hd.post 64 (unl nm k).code
 have hr0 : Rc (unl nm k).code 0 := .zero (by simp [unl])
 have hn : nx (unl nm k).code 0 = [1] := by
  rw [c8s (by simp [unl])]
  simp [unl]
 have := hp.2.2 0 (by simp [unl]) hr0 1 (by rw [hn]; simp) v h
 rw [f3d, if_neg (by omega)] at this
 exact hp.1 v this
theorem f3e {i v : Nat} (hv : v < 64) : dsOk (unl nm k).code i v ↔ ¬ (i = 1 /\ k = (v : Int)) := by
 unfold dsOk
 constructor
 . rintro h ⟨rfl, e⟩
   have := h (by simp [unl]) (by simp [unl]) (by rw [c9y]; exact e)
   rw [d3r (by simp [unl]) hv, g7c] at this
   exact g7b v this
 . intro h hi h40 hu
   have h3 : i < 3 := hi
   have : i = 0 \/ i = 1 \/ i = 2 := by omega
   rcases this with rfl | rfl | rfl
   . simp [unl] at h40
   . rw [c9y] at hu
     exact absurd ⟨rfl, hu⟩ h
   . simp [unl] at h40
end
theorem e9t {p : Pg} {nm : ByteArray} {k : Int} (hv : a3g p = true) (hm : 0 < p.funcs.length) (hk : 0 <= k) {x y : Pts} (hx : Least p x) (hy : Least (addU p nm k) y) {v : Nat} (h64 : v < 64) : (b1y (addU p nm k) y).getLsbD v = true ↔ (b1y p x).getLsbD v = true /\ ¬ k = (v : Int) := by
 rw [c0p h64, c0p h64]
 have hbad : BadP (addU p nm k) y ↔ BadP p x := by
  constructor
  . rintro ⟨f, hf, i, hi, h1, h2, h3⟩
    by_cases hl : f < p.funcs.length
    . have e := b7f hl hf
      simp only [e] at hi h1 h2 h3
      exact ⟨f, hl, i, hi, h1, h2, (c7u hv hm hx hy hl _ _).1 h3⟩
    . obtain ⟨_, e⟩ := d5t hf hl
      simp only [e] at hi h1 h2 h3
      exfalso
      have h3' : i < 3 := hi
      have : i = 0 \/ i = 1 \/ i = 2 := by omega
      rcases this with rfl | rfl | rfl
      . simp [unl, lkO] at h1
      . rw [c9y] at h2; omega
      . simp [unl, lkO] at h1
  . rintro ⟨f, hf, i, hi, h1, h2, h3⟩
    have hf' : f < (addU p nm k).funcs.length := by rw [a7t]; omega
    refine ⟨f, hf', i, ?_⟩
    rw [b7f hf hf']
    exact ⟨hi, h1, h2, (c7u hv hm hx hy hf _ _).2 h3⟩
 rw [hbad]
 constructor
 . rintro ⟨h1, h2⟩
   refine ⟨⟨h1, fun f hf i => ?_⟩, fun e => ?_⟩
   . have := h2 f (by rw [a7t]; omega) i
     rwa [b7f hf] at this
   . have h3 := h2 p.funcs.length (by rw [a7t]; omega) 1
     rw [(d5t (by rw [a7t]; omega) (by omega)).2, f3e h64] at h3
     exact h3 ⟨rfl, e⟩
 . rintro ⟨⟨h1, h2⟩, h3⟩
   refine ⟨h1, fun f hf i => ?_⟩
   by_cases hl : f < p.funcs.length
   . rw [b7f hl]; exact h2 f hl i
   . rw [(d5t hf hl).2, f3e h64]
     exact fun h => h3 h.2
noncomputable def a8t (p : Pg) (x : Pts) (c : List Ins) : List (List Int) := (hdG 64 c).map fun s => a7e (s &&& b1y p x)
theorem d5q {s m m' : BitVec 64} {k : Int} (h : ∀ v : Nat, v < 64 -> (m'.getLsbD v = true ↔ m.getLsbD v = true /\ ¬ k = (v : Int))) : a7e (s &&& m') = (a7e (s &&& m)).filter fun v => decide (v ≠ k) := by
 unfold a7e
 rw [List.filter_map, List.filter_filter]
 congr 1
 refine List.filter_congr fun v hv => ?_
 have h64 := List.mem_range.1 hv
 rw [BitVec.getLsbD_and, BitVec.getLsbD_and, Bool.eq_iff_iff]
 simp only [Bool.and_eq_true, h v h64, Function.comp, decide_eq_true_eq, ne_eq]
 constructor
 . rintro ⟨h1, h2, h3⟩; exact ⟨fun e => h3 e.symm, h1, h2⟩
 . rintro ⟨h1, h2, h3⟩; exact ⟨h2, h3, fun e => h1 e.symm⟩
end Go.Gv
namespace Go.Gv
open Go Go.FM
set_option maxRecDepth 100000
set_option maxHeartbeats 40000000
section
variable {p : Pg} {nm : ByteArray} {k : Int}
theorem c4t {v : Int} (h0 : 0 <= v) (h1 : v < (p.funcs.length : Int)) : a5j (addU p nm k).funcs v = a5j p.funcs v := by
 unfold a5j
 rw [c9k (by omega)]
theorem e9p {f : FnD} {x : Ins} {r v : Int} (h : opR p f x r v = true) : opR (addU p nm k) f x r v = true := by
 have hl : ((addU p nm k).funcs.length : Int) = (p.funcs.length : Int) + 1 := by rw [a7t]; simp
 have key : ∀ (P P' Q Q' : Bool) (c : Prop) [Decidable c], (P = true -> P' = true) -> (Q = true -> Q' = true) -> (if c then P else Q) = true -> (if c then P' else Q') = true := fun P P' Q Q' c _ h1 h2 h => by
  by_cases hc : c
  . rw [if_pos hc] at h ⊢; exact h1 h
  . rw [if_neg hc] at h ⊢; exact h2 h
 revert h
 delta opR
 refine key _ _ _ _ _ id <| key _ _ _ _ _ id <| key _ _ _ _ _ id <| key _ _ _ _ _ id <| key _ _ _ _ _ id <| key _ _ _ _ _ id <| key _ _ _ _ _ (fun h => ?_) <| key _ _ _ _ _ (fun h => ?_) id
 . simp only [Bool.and_eq_true, decide_eq_true_eq] at h ⊢
   obtain ⟨⟨⟨h1, h2⟩, h3⟩, h4⟩ := h
   rw [c4t h1 h2, hl]
   exact ⟨⟨⟨h1, by omega⟩, h3⟩, h4⟩
 . simp only [Bool.and_eq_true, decide_eq_true_eq] at h ⊢
   obtain ⟨⟨h1, h2⟩, h3⟩ := h
   rw [c4t h1 h2, hl]
   exact ⟨⟨h1, by omega⟩, h3⟩
theorem e0n {f : FnD} {x : Ins} (h : a7l p f x = true) : a7l (addU p nm k) f x = true := by
 unfold a7l at h ⊢
 simp only [Bool.and_eq_true] at h ⊢
 obtain ⟨⟨⟨⟨h1, h2⟩, h3⟩, h4⟩, h5⟩ := h
 exact ⟨⟨⟨⟨h1, e9p h2⟩, e9p h3⟩, e9p h4⟩, h5⟩
theorem d5v {f : FnD} : ∀ {c : List Ins} {e : Int}, a9j p f c e = true -> a9j (addU p nm k) f c e = true
 | [], _, _ => rfl
 | x :: r, e, h => by
   unfold a9j at h ⊢
   split at h
   . rename_i c
     rw [if_pos c]
     rw [Bool.and_eq_true] at h ⊢
     exact ⟨e0n h.1, d5v h.2⟩
   . cases h
theorem h1d {f : FnD} (h : fnR p f = true) : fnR (addU p nm k) f = true := by
 unfold fnR at h ⊢
 rw [Bool.and_eq_true] at h ⊢
 exact ⟨h.1, d5v h.2⟩
theorem g7d (hk : 0 <= k) (hg : k < (p.globals.length : Int)) (hn : (unl nm k).nm ≠ []) : fnR (addU p nm k) (unl nm k) = true := by
 have hg' : (addU p nm k).globals = p.globals := rfl
 unfold fnR
 simp only [Bool.and_eq_true, Bool.not_eq_true', decide_eq_false_iff_not]
 refine ⟨⟨hn, by rfl⟩, ?_⟩
 simp [a9j, unl, a7l, opR, rR, hg', hk, hg]
theorem e0m (hv : a3g p = true) (hk : 0 <= k) (hg : k < (p.globals.length : Int)) (h64 : p.funcs.length < 64) (hn : (unl nm k).nm ≠ []) (hnn : ∀ f ∈ p.funcs, f.nm ≠ (unl nm k).nm) : a3g (addU p nm k) = true := by
 have hl := a7t (p := p) (nm := nm) (k := k)
 have hG : (addU p nm k).globals = p.globals := rfl
 have hL : (addU p nm k).layouts = p.layouts := rfl
 have hM : (addU p nm k).main = p.main := rfl
 have hF : (addU p nm k).funcs = p.funcs ++ [unl nm k] := rfl
 unfold a3g a6p at hv ⊢
 rw [hG, hL, hM]
 simp only [Bool.and_eq_true, decide_eq_true_eq] at hv ⊢
 obtain ⟨⟨⟨⟨⟨⟨a1, a2⟩, a3⟩, a4, a5⟩, a6⟩, a7⟩, a8, a9, a10⟩ := hv
 refine ⟨⟨⟨⟨⟨⟨by omega, a2⟩, a3⟩, a4, by omega⟩, by rw [c4t a4 a5]; exact a6⟩, a7⟩, a8, ?_, ?_⟩
 . rw [List.all_eq_true] at a9 ⊢
   intro f hf
   rw [hF, List.mem_append, List.mem_singleton] at hf
   rcases hf with hf | rfl
   . exact h1d (a9 f hf)
   . exact g7d hk hg hn
 . rw [hF, List.map_append, List.nodup_append]
   refine ⟨a10, by simp, ?_⟩
   intro a ha b hb
   obtain ⟨f, hf, rfl⟩ := List.mem_map.1 ha
   simp only [List.map_cons, List.map_nil, List.mem_singleton] at hb
   subst hb
   exact hnn f hf
end
def c5 : List Ins := [⟨18, 0, 0, 0, 0⟩, ⟨39, 0, 0, 0, 0⟩, ⟨18, 1, 1, 0, 0⟩, ⟨33, 1, 1, 0, 0⟩, ⟨18, 0, 0, 0, 0⟩, ⟨40, 0, 0, 0, 0⟩, ⟨30, -1, 0, 0, 0⟩]
def p5 : Pg := ⟨[⟨⟨⟨[109, 97, 105, 110]⟩⟩, 0, 2, c5⟩], [⟨⟨⟨[109]⟩⟩, 0⟩, ⟨⟨⟨[120]⟩⟩, 0⟩], [], 0⟩
theorem d6o : a3g p5 = true := by decide +kernel
theorem us5 : ∀ i, usC c5 i = if i = 1 \/ i = 5 then 0 else -1 := fun i => by
 match i with
 | 0 => decide +kernel
 | 1 => decide +kernel
 | 2 => decide +kernel
 | 3 => decide +kernel
 | 4 => decide +kernel
 | 5 => decide +kernel
 | 6 => decide +kernel
 | i + 7 => rw [if_neg (by omega)]; rfl
theorem us5n {i : Nat} (h : ¬ (i = 1 \/ i = 5)) : usC c5 i = -1 := (us5 i).trans (if_neg h)
theorem us5p {i : Nat} (h : i = 1 \/ i = 5) : usC c5 i = 0 := (us5 i).trans (if_pos h)
theorem nx5 : ∀ i, i < 6 -> nx c5 i = [(i : Int) + 1] := fun i h => by
 match i, h with
 | 0, _ => decide +kernel
 | 1, _ => decide +kernel
 | 2, _ => decide +kernel
 | 3, _ => decide +kernel
 | 4, _ => decide +kernel
 | 5, _ => decide +kernel
theorem rc5 : ∀ i, i < 7 -> Rc c5 i
 | 0, _ => .zero (by decide)
 | i + 1, h => by
   have := (rc5 i (by omega)).step (v := (i : Int) + 1) (by rw [nx5 i (by omega)]; simp)
   rwa [show ((i : Int) + 1).toNat = i + 1 by omega] at this
theorem hd5 {i v : Nat} (hi : i < 7) : Hd 64 c5 i v ↔ v = 0 /\ 2 <= i /\ i <= 5 := by
 have hp := Hd.post 64 c5
 have st : ∀ i, i < 6 -> Hd 64 c5 (i + 1) v -> if usC c5 i = (v : Int) then (c5.getD i ⟨0, 0, 0, 0, 0⟩).op = 39 else Hd 64 c5 i v := fun i h h1 => by
  have hl : i < c5.length := by show i < 7; omega
  have := hp.2.2 i hl (rc5 i (by omega)) ((i : Int) + 1) (by rw [nx5 i h]; simp) v (by rwa [show ((i : Int) + 1).toNat = i + 1 by omega])
  rw [List.getD_eq_getElem?_getD, List.getElem?_eq_getElem hl]
  exact this
 have n0 : ¬ Hd 64 c5 0 v := hp.1 v
 have n1 : ¬ Hd 64 c5 1 v := fun h => by
  have := st 0 (by omega) h
  rw [us5n (by omega), if_neg (by omega)] at this
  exact n0 this
 have n2 : Hd 64 c5 2 v -> v = 0 := fun h => by
  have := st 1 (by omega) h
  rw [us5p (by omega)] at this
  split at this
  . omega
  . exact absurd this n1
 have nn : ∀ i, 2 <= i -> i < 5 -> Hd 64 c5 (i + 1) v -> Hd 64 c5 i v := fun i h1 h2 h => by
  have := st i (by omega) h
  rw [us5n (by omega), if_neg (by omega)] at this
  exact this
 have n3 : Hd 64 c5 3 v -> v = 0 := fun h => n2 (nn 2 (by omega) (by omega) h)
 have n4 : Hd 64 c5 4 v -> v = 0 := fun h => n3 (nn 3 (by omega) (by omega) h)
 have n5 : Hd 64 c5 5 v -> v = 0 := fun h => n4 (nn 4 (by omega) (by omega) h)
 have n6 : ¬ Hd 64 c5 6 v := fun h => by
  have := st 5 (by omega) h
  rw [us5p (by omega)] at this
  split at this
  . exact absurd this (by decide)
  . rename_i e
    have := n5 this
    omega
 constructor
 . intro h
   have : i = 0 \/ i = 1 \/ i = 2 \/ i = 3 \/ i = 4 \/ i = 5 \/ i = 6 := by omega
   rcases this with rfl | rfl | rfl | rfl | rfl | rfl | rfl
   . exact absurd h n0
   . exact absurd h n1
   . exact ⟨n2 h, by omega, by omega⟩
   . exact ⟨n3 h, by omega, by omega⟩
   . exact ⟨n4 h, by omega, by omega⟩
   . exact ⟨n5 h, by omega, by omega⟩
   . exact absurd h n6
 . rintro ⟨rfl, h1, h2⟩
   refine ⟨fun i v => v = 0 /\ 2 <= i /\ i <= 5, ⟨fun v h => by omega, fun i v h => ⟨rc5 i (by omega), by omega⟩, fun i hl hr w hw v hv => ?_⟩, rfl, h1, h2⟩
   have hl7 : i < 7 := hl
   have h6 : i < 6 := by
    rcases Nat.lt_or_ge i 6 with h | h
    . exact h
    . have e : i = 6 := by omega
      subst e
      rw [show nx c5 6 = [] by decide +kernel] at hw
      cases hw
   rw [nx5 i h6] at hw
   obtain rfl : w = (i : Int) + 1 := by simpa using hw
   rw [show ((i : Int) + 1).toNat = i + 1 by omega] at hv
   obtain ⟨rfl, g1, g2⟩ := hv
   by_cases e1 : i = 1
   . subst e1; rw [us5p (by omega), if_pos (by omega)]; rfl
   . rw [us5n (by omega), if_neg (by omega)]
     show (0 : Nat) = 0 /\ 2 <= i /\ i <= 5
     exact ⟨rfl, by omega, by omega⟩
theorem op5 {i : Nat} (hi : i < c5.length) : c5[i].op ≠ 51 := by
 have h7 : i < 7 := hi
 have : i = 0 \/ i = 1 \/ i = 2 \/ i = 3 \/ i = 4 \/ i = 5 \/ i = 6 := by omega
 rcases this with rfl | rfl | rfl | rfl | rfl | rfl | rfl <;> simp [c5]
theorem g5 {i v : Nat} (hi : i < 7) (hv : v < 64) : ((hdG 64 c5).getD i 0).getLsbD v = true ↔ v = 0 /\ 2 <= i /\ i <= 5 := by
 have hl : i < c5.length := hi
 rw [d3r hl hv, a8u hl (op5 hl), hd5 hi]
theorem h0k {x : Pts} {v : Nat} (hv : v < 64) : (b1y p5 x).getLsbD v = true := by
 rw [c0p hv]
 constructor
 . rintro ⟨f, hf, i, hi, h1, h2, _⟩
   obtain rfl : f = 0 := by have : f < 1 := hf; omega
   have h2 : usC c5 i < 0 := h2
   have hi : i < c5.length := hi
   have h1 : lkO c5[i].op = true := h1
   rw [us5] at h2
   have h7 : i < 7 := hi
   have : i = 0 \/ i = 1 \/ i = 2 \/ i = 3 \/ i = 4 \/ i = 5 \/ i = 6 := by omega
   rcases this with rfl | rfl | rfl | rfl | rfl | rfl | rfl <;> first | (simp [c5, lkO] at h1; done) | (simp at h2; done)
 . intro f hf i hi h40 hu
   obtain rfl : f = 0 := by have : f < 1 := hf; omega
   have hu : usC c5 i = (v : Int) := hu
   have hi : i < 7 := hi
   show ((hdG 64 c5).getD i 0).getLsbD v = true
   rw [g5 hi hv]
   rw [us5] at hu
   have h40 : (c5[i]'hi).op = 40 := h40
   split at hu
   . rename_i e
     rcases e with rfl | rfl
     . simp [c5] at h40
     . omega
   . omega
theorem h1a {s : BitVec 64} {b : Bool} (h : ∀ v, v < 64 -> (s.getLsbD v = true ↔ v = 0 /\ b = true)) : a7e s = if b = true then [0] else [] := by
 unfold a7e
 have e : (List.range 64).filter (fun v => s.getLsbD v) = (List.range 64).filter fun v => decide (v = 0 /\ b = true) := List.filter_congr fun v hv => by
  rw [Bool.eq_iff_iff, h v (List.mem_range.1 hv), decide_eq_true_iff]
 rw [e]
 cases b <;> decide
theorem g9a (x : Pts) : a8t p5 x c5 = [[], [], [0], [0], [0], [0], []] := by
 have key : ∀ i (hi : i < 7), a7e ((hdG 64 c5)[i]'(by rw [a8g]; exact hi) &&& b1y p5 x) = if decide (2 <= i /\ i <= 5) = true then [0] else [] := fun i hi => by
  refine h1a fun v hv => ?_
  have e : (hdG 64 c5)[i]'(by rw [a8g]; exact hi) = (hdG 64 c5).getD i 0 := by rw [List.getD_eq_getElem?_getD, List.getElem?_eq_getElem (by rw [a8g]; exact hi)]; rfl
  rw [e, BitVec.getLsbD_and, h0k hv, Bool.and_true, g5 hi hv, decide_eq_true_iff]
 apply List.ext_getElem
 . simp [a8t, a8g]; rfl
 . intro i h1 h2
   have hi : i < 7 := h2
   have e : (a8t p5 x c5)[i] = if decide (2 <= i /\ i <= 5) = true then [0] else [] := by
    rw [<- key i hi]; simp [a8t]
   refine e.trans ?_
   clear e h1
   have : i = 0 \/ i = 1 \/ i = 2 \/ i = 3 \/ i = 4 \/ i = 5 \/ i = 6 := by omega
   rcases this with rfl | rfl | rfl | rfl | rfl | rfl | rfl <;> rfl
end Go.Gv
namespace Go.Je
open Go Go.FM Go.Gv Go.Proofs
set_option maxRecDepth 100000
set_option maxHeartbeats 40000000
end Go.Je
