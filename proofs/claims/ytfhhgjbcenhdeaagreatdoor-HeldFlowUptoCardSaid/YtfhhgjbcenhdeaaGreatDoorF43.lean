/- Parts of the proof. -/
import Derived.Test.YtfhhgjbcenhdeaaGreatDoorF39
import Derived.Test.YtfhhgjbcenhdeaaGreatDoorF42
set_option linter.unusedSimpArgs false
set_option linter.unusedVariables false
namespace Go.Je
open Go Go.FM Go.Gv Go.Proofs
set_option maxRecDepth 100000
set_option maxHeartbeats 40000000
theorem a8y : ptrs 0 = [] := rfl
theorem a4g {β : FM.Loc -> Option FM.Loc} (h : ∀ f, β [95, f] = some [95, f]) (n : Nat) : renss β (ptrs n) = ptrs n := by
 have key : ∀ l : List Nat, renss β (l.map fun f => [FV.ptr [95, f] 11 0 0]) = l.map fun f => [FV.ptr [95, f] 11 0 0] := by
  intro l
  induction l with
  | nil => rfl
  | cons a l ih =>
    show rens β [FV.ptr [95, a] 11 0 0] :: renss β _ = _
    rw [ih]
    simp [rens, ren, h]
 exact key _
theorem c9c {L : List (FM.Loc × FO)} {B : Heap} {p : Pg} {k f : Nat} {nm : ByteArray} {pa rg : Int} {c : List Ins} (hk : f < k) (hf : f < p.funcs.length) (e : p.funcs[f] = ⟨nm, pa, rg, c⟩) : HP L B (famA p k) [95, f] = some (.cells 72 11 [[.list 4 (fns p.funcs), .list 2 (gbs p.globals), .list 1 (lays p.layouts), .int .i64 p.main, .int .i64 f, .str nm, .int .i64 pa, .int .i64 rg, .list 5 (inss c), .sl [96, f] 1 0 c.length, .sl [97, f] 1 0 c.length]]) /\ HP L B (famA p k) [96, f] = some (.cells 3 1 (ints (usL c))) /\ HP L B (famA p k) [97, f] = some (.cells 68 1 (u64s (hdG 64 c))) := by
 obtain ⟨h1, h2, h3⟩ := c4i (k := k) hk hf e
 exact ⟨a8k h1, a8k h2, a8k h3⟩
theorem d7x {L : List (FM.Loc × FO)} {B : Heap} {p : Pg} {k f : Nat} (hk : f < k) (hl : k <= p.funcs.length) : HP L B (famA p k) [95, f] ≠ none := by
 obtain ⟨⟨nm, pa, rg, c⟩, e⟩ : ∃ y, p.funcs[f]'(by omega) = y := ⟨_, rfl⟩
 rw [(c9c hk (by omega) e).1]; simp
theorem a4j {β : FM.Loc -> Option FM.Loc} {L : List (FM.Loc × FO)} {B : Heap} {p : Pg} {n k : Nat} (h : ∀ f, β [95, f] = some [95, f]) (hn : n <= k) (hl : k <= p.funcs.length) : a6v β (inH (HP L B (famA p k))) (ptrs n) := by
 have key : ∀ l : List Nat, (∀ f ∈ l, f < k) -> a6v β (inH (HP L B (famA p k))) (l.map fun f => [FV.ptr [95, f] 11 0 0]) := by
  intro l hl2
  induction l with
  | nil => trivial
  | cons a l ih => exact ⟨⟨⟨d7x (hl2 a (by simp)) hl, by rw [h]; rfl⟩, trivial⟩, ih fun f hf => hl2 f (by simp [hf])⟩
 exact key _ fun f hf => by have := List.mem_range.1 hf; omega
theorem b8i {L : List (FM.Loc × FO)} {B : Heap} {p : Pg} {n k : Nat} (hn : n <= k) (hl : k <= p.funcs.length) : a2u (inH (HP L B (famA p k))) (ptrs n) := by
 have key : ∀ l : List Nat, (∀ f ∈ l, f < k) -> a2u (inH (HP L B (famA p k))) (l.map fun f => [FV.ptr [95, f] 11 0 0]) := by
  intro l hl2
  induction l with
  | nil => trivial
  | cons a l ih => exact ⟨⟨d7x (hl2 a (by simp)) hl, trivial⟩, ih fun f hf => hl2 f (by simp [hf])⟩
 exact key _ fun f hf => by have := List.mem_range.1 hf; omega
theorem f4l {L : List (FM.Loc × FO)} {p : Pg} {k : Nat} (ho : ninL (inH (HP L noH (famA p k))) L) : Clo (ext (updL L noH) (famA p k)) := fun l o hl => by
 cases e : famA p k l with
 | some ob =>
   have h2 : ext (updL L noH) (famA p k) l = some ob := a7w e
   rw [h2] at hl
   obtain rfl := sI_ hl
   refine a3k (fun q hq hn => hq (a0w.1 hn).1) (c8b p k l ob e)
 | none =>
   have h2 : ext (updL L noH) (famA p k) l = updL L noH l := b6w e
   rw [h2] at hl
   rcases a5z hl with h | ⟨_, h⟩
   . exact a8o ho _ h
   . cases h
theorem d9u {L : List (FM.Loc × FO)} (hn : hdN 6 (L.map Prod.fst) = true) {q : Nat} {r : List Nat} (h : q ≠ 6) : updL L noH (q :: r) = none := by
 rw [a5h fun p hp e => ?_]
 . rfl
 . obtain ⟨r', hr⟩ := a7m hn p.1 (List.mem_map.2 ⟨p, hp, rfl⟩)
   rw [e] at hr
   simp only [List.cons.injEq] at hr
   exact h hr.1
theorem e4d {L : List (FM.Loc × FO)} {p : Pg} {k : Nat} (hn : hdN 6 (L.map Prod.fst) = true) (ho : ninL (inH (HP L noH (famA p k))) L) : BsL k (ext (updL L noH) (famA p k)) := by
 obtain ⟨n5, n6, n7⟩ := e1j (p := p) (k := k)
 exact ⟨fun q r hq => a0w.2 ⟨a4r p k (by omega), d9u hn (by omega)⟩, a0w.2 ⟨n5, d9u hn (by omega)⟩, a0w.2 ⟨n6, d9u hn (by omega)⟩, a0w.2 ⟨n7, d9u hn (by omega)⟩, f4l ho⟩
theorem f4s {L : List (FM.Loc × FO)} {p : Pg} {k : Nat} (e : k = p.funcs.length) (hn : hdN 6 (L.map Prod.fst) = true) (ho : ninL (inH (HP L noH (famA p k))) L) (hl : updL L noH [6, 98] = some (.cells 65 1 (ptrs k))) : BsD p (ext (updL L noH) (famA p k)) := by
 subst e
 refine ⟨(e4d hn ho).toH, (b6w (a4r p _ (by omega))).trans hl, fun f nm pa rg c hF => ?_⟩
 obtain ⟨h1, h2, h3⟩ := c4i hF.hf hF.hf hF.e
 exact ⟨a7w h1, a7w h2, a7w h3⟩
theorem cloN (p : Pg) (k : Nat) : Clo (ext noH (famA p k)) := (bsF p k).clo
theorem e6h {s : BitVec 64} (h : s ≠ 0) : IntKind.wrap .u64 ((s.toNat : Int) - 1) = ((s - 1).toNat : Int) := by
 have h0 : s.toNat ≠ 0 := fun e => h (BitVec.eq_of_toNat_eq (by simpa using e))
 have hl := s.isLt
 have e1 : (s - 1).toNat = s.toNat - 1 := by
  rw [BitVec.toNat_sub]
  have : (1 : BitVec 64).toNat = 1 := rfl
  rw [this]; omega
 rw [IntKind.wrap_u64, e1]; omega
theorem c0l {p : Pg} {x : Pts} {c : List Ins} {i : Nat} (h : i < (a6x p x c).length) : (a6x p x c)[i] = a6h ((hdG 64 c)[i]'(by simpa [a6x] using h) &&& b0y p x) := by simp [a6x]
theorem b6i (p : Pg) (x : Pts) (c : List Ins) : (a6x p x c).length = c.length := by simp [a6x, a6f]
theorem s8 {n : Nat} (h : n <= 64) : (n + 1 + (n + 1) / 4 + 192) * 8 <= 140737488355328 /\ n <= 4611686018427387903 := by omega
theorem a5a (k r : Nat) (sz : Nat) (xs : List (List FV)) (n : Nat) (h : k ≠ 95) : fzss [k, r] sz xs (ptrs n) = ptrs n := by
 have key : ∀ l : List Nat, fzss [k, r] sz xs (l.map fun f => [FV.ptr [95, f] 11 0 0]) = l.map fun f => [FV.ptr [95, f] 11 0 0] := by
  intro l
  induction l with
  | nil => rfl
  | cons a l ih =>
    show fzs [k, r] sz xs [FV.ptr [95, a] 11 0 0] :: fzss [k, r] sz xs _ = _
    rw [ih]
    simp [fzs, fz, Ne.symm h]
 exact key _
theorem e8c {H : Heap} {xs : List (List FV)} (h : nlss xs = true) (k : Nat) : frzR H (k + 1) xs = some xs := by unfold frzR; rw [if_pos h]
theorem e7k {l : List (List Int)} {i : Nat} (h : i < l.length) : lays (l.take i) ++ [[.list 1 (ints l[i])]] = lays (l.take (i + 1)) := by
 rw [List.take_succ_eq_append_getElem h, a8p]; rfl
theorem t_In {p : Pg} (hb : PgB p) (hv : a2c p = true) {f : Nat} (hf : f < p.funcs.length) : PC Tryz.prog Gl 14 [.agg [.list 4 (fns p.funcs), .list 2 (gbs p.globals), .list 1 (lays p.layouts), .int .i64 p.main], .int .i64 f] (.list 1 (lays (a6x p (lfpP p) (p.funcs[f]).code))) := by
 have hp := vOk hv
 have hnf := hp.nf
 have tV : PC Tryz.prog Gl 39 [.agg [.list 4 (fns p.funcs), .list 2 (gbs p.globals), .list 1 (lays p.layouts), .int .i64 p.main]] (.bool (a2c p)) := by rw [<- b9d]; exact c19 p hb.f hb.g hb.l hb.ll hb.c
 rw [hv] at tV
 obtain ⟨⟨nm, pa, rg, c⟩, hfd⟩ : ∃ fd, p.funcs[f] = fd := ⟨_, rfl⟩
 have hF := fok hv hf hfd
 rw [hfd]
 show PC Tryz.prog Gl 14 [.agg [.list 4 (fns p.funcs), .list 2 (gbs p.globals), .list 1 (lays p.layouts), .int .i64 p.main], .int .i64 f] (.list 1 (lays (a6x p (lfpP p) c)))
 have h1000 := hF.hc.n1000
 have hfi : (f : Int) < (p.funcs.length : Int) := by omega
 have hf0 : ¬ (f : Int) < 0 := by omega
 have hf1 : ¬ (p.funcs.length : Int) <= (f : Int) := by omega
 obtain ⟨s95, s96, s97⟩ : (∀ L, HP L noH (famA p p.funcs.length) [95, f] = some (.cells 72 11 [[.list 4 (fns p.funcs), .list 2 (gbs p.globals), .list 1 (lays p.layouts), .int .i64 p.main, .int .i64 f, .str nm, .int .i64 pa, .int .i64 rg, .list 5 (inss c), .sl [96, f] 1 0 c.length, .sl [97, f] 1 0 c.length]])) /\ (∀ L, HP L noH (famA p p.funcs.length) [96, f] = some (.cells 3 1 (ints (usL c)))) /\ ∀ L, HP L noH (famA p p.funcs.length) [97, f] = some (.cells 68 1 (u64s (hdG 64 c))) := ⟨fun L => (c9c hf hf hfd).1, fun L => (c9c hf hf hfd).2.1, fun L => (c9c hf hf hfd).2.2⟩
 have hgl := a6f (N := 64) c
 have tD := fun {B : Heap} (hB : BsD p B) => f0u hb hv hB
 have hHl := b6i p (lfpP p) c
 have hHL : ∀ i (h : i < (a6x p (lfpP p) c).length) (h2 : i < (hdG 64 c).length), (a6x p (lfpP p) c)[i] = a6h ((hdG 64 c)[i] &&& b0y p (lfpP p)) := fun i h _ => c0l h
 obtain ⟨HL, hHe⟩ : ∃ HL, a6x p (lfpP p) c = HL := ⟨_, rfl⟩
 rw [hHe] at hHl hHL ⊢
 generalize b0y p (lfpP p) = M at tD hHL
 clear hHe
 refine a3s (res := [.tmp 4]) 12 74 [29, 28, 50, 49, 48] (fun d ix => 6 :: d :: ix) (fn := Tryz.f14) (by kernel_rfl) (by rfl) (by rfl) (by rfl) (by simp) (by decide) ?_
 repeat' first
  | ((with_reducible refine cgB ?_); refine e2b rfl hlt hfd (d1m hF (f3r hv hF) (e4d ?_ ?_)) ?_; (focus rfl); (focus (simp [ninL, ninO, a2u, nins, nin, a0e, a0m, a0c, a0a, a0b, a2i, b8i, a5l, a5r, bRow, *]; done)))
  | ((with_reducible refine cgB ?_); refine c8o rfl (tD (f4s rfl ?_ ?_ ?_)) ?_; (focus rfl); (focus (simp [ninL, ninO, a2u, nins, nin, a0e, a0m, a0c, a0a, a0b, a2i, b8i, a5l, a5r, bRow, *]; done)); (focus (simp [a1p, a1v]; done)))
  | ((with_reducible refine cgB ?_); refine ⟨rfl, _, _, htf _, ?_⟩)
  | ((with_reducible refine a1a ?_); refine a1q (σ := {k : Nat // k <= p.funcs.length}) (fun y => [(5, .sl [6, 98] 1 0 y.1), (6, .undef)]) [28] (fun y => [(29, .int .i64 (y.1 : Int))]) [] (fun y => [([6, 98], .cells 65 1 (ptrs y.1))]) (fun y => famA p y.1) (fun y => p.funcs.length - y.1) ⟨0, by simp⟩ (gk5S [([6, 98], none)] (f3t p) c5pc (fun _ h => h.elim) ?_ ?_ ?_ ?_ ?_ ?_) ?_; (iterate 2 (focus (simp [LPXB, *, SIMB, a1l, a0w, a4r, a5a, a4g, a4j, a8y, a2v, a8x]; done))); (focus (simp [injB, bk, LPXB]; done)); (iterate 3 (focus (simp [LPXB, *, SIMB, bk_n, bk_c, inH, a1l, a0w, a4r, a5a, a4g, a4j, a8y, a2v, a8x]; done))); rintro ⟨k, hk⟩; simp only [lpS, LPXB]; (try dsimp only at hk); rcases a0z hk with hlt | ⟨hlt, e⟩; rotate_left; subst e; rotate_left; have wk := wli hlt (by omega); have hkl : (k : Int) < (p.funcs.length : Int) := (by omega); have hk1 : k + 1 <= p.funcs.length := hlt; obtain ⟨⟨nm, pa, rgs, c⟩, hfd⟩ : ∃ fd, p.funcs[k] = fd := ⟨_, rfl⟩; have hF := fok hv hlt hfd; have s1 : (k + 1 + (k + 1) / 4 + 192) * 8 <= 140737488355328 := (by omega); have s2 : k <= 4611686018427387903 := (by omega); have htk : (ptrs k).take k = ptrs k := tL_ (by rw [a2v]; omega); rotate_left)
  | ((with_reducible refine a1a ?_); refine a1q (σ := {i : Nat // i <= c.length}) (fun y => [(8, .sl [6, 99] 1 0 y.1), (10, .undef), (11, .undef)]) [48, 49] (fun y => [(50, .int .i64 (y.1 : Int))]) [] (fun y => [([6, 99], .cells 36 1 (lays (HL.take y.1)))]) (fun y => famA p p.funcs.length) (fun y => c.length - y.1) ⟨0, by simp⟩ (gk5S [([6, 99], none)] rfl (cloN _ _) (fun _ h => h.elim) ?_ ?_ ?_ ?_ ?_ ?_) ?_; (iterate 2 (focus (simp [LPXB, *, SIMB, a1l, a0w, a4r, a5a, a4g, a4j, a8y, a2v, a8x, List.take_zero, b0m]; done))); (focus (simp [injB, bk, LPXB]; done)); (iterate 3 (focus (simp [LPXB, *, SIMB, bk_n, bk_c, inH, a1l, a0w, a4r, a5a, a4g, a4j, a8y, a2v, a8x, List.take_zero, b0m]; done))); rintro ⟨i, hi⟩; simp only [lpS, LPXB]; (try dsimp only at hi); have htl : (HL.take i).length = i := (by rw [List.length_take]; omega); have htt : (lays (HL.take i)).take i = lays (HL.take i) := tL_ (by rw [a1n]; omega); rcases a0z hi with hil | ⟨hil, e⟩; rotate_left; subst e; have htk : HL.take c.length = HL := tL_ (by omega); have htk2 : (lays HL).take c.length = lays HL := tL_ (by rw [a1n]; omega); rotate_left; have wi := wli hil (by omega); have hri : i < (hdG 64 c).length := (by omega); obtain ⟨gi, hgi⟩ : ∃ g, (hdG 64 c)[i] = g := ⟨_, rfl⟩; have hra := b9s gi M; obtain ⟨s0, hs0⟩ : ∃ s, gi &&& M = s := ⟨_, rfl⟩; rw [hs0] at hra; simp at hra; have hHi : i < HL.length := (by omega); have hrow : HL[i] = a6h s0 := (by rw [hHL i hHi hri, hgi, hs0]); have hlt2 := e7k hHi; rw [hrow] at hlt2; have hz := szn (n := i + 1) (k := 24) (by omega) (by decide); have hz2 : i <= 4611686018427387903 := (by omega))
  | ((with_reducible refine a1a ?_); refine a1q (σ := {y : BitVec 64 × List Int // y.2 ++ a6h y.1 = a6h s0}) (fun y => [(10, .int .u64 (y.1.1.toNat : Int)), (11, .sl [6, 97] 1 0 y.1.2.length)]) [48, 49, 50] (fun y => []) [] (fun y => [([6, 97], .cells 3 1 (ints y.1.2))]) (fun y => famA p p.funcs.length) (fun y => (a6h y.1.1).length) ⟨(s0, []), by simp⟩ (gk5S [([6, 97], none)] rfl (cloN _ _) (fun _ h => h.elim) ?_ ?_ ?_ ?_ ?_ ?_) ?_; (iterate 2 (focus (simp [LPXB, *, SIMB, a1l, a0w, a4r, a5a, a4g, a4j, a8y, a2v, a8x, a2r]; done))); (focus (simp [injB, bk, LPXB]; done)); (iterate 3 (focus (simp [LPXB, *, SIMB, bk_n, bk_c, inH, a1l, a0w, a4r, a5a, a4g, a4j, a8y, a2v, a8x, a2r]; done))); rintro ⟨⟨t, dn⟩, hd⟩; simp only [lpS, LPXB]; (try dsimp only at hd); have hb64 := c3e s0; have hdl : dn.length + (a6h t).length = (a6h s0).length := (by rw [<- hd, List.length_append]); by_cases ht0 : t = 0; subst ht0; rw [e9k, List.append_nil] at hd; subst hd; have hz0 : ((0 : BitVec 64).toNat : Int) = 0 := rfl; rotate_left; have htn : ¬ (t.toNat : Int) = 0 := (fun e => ht0 (BitVec.eq_of_toNat_eq (by simpa using e))); have htn2 : ¬ t.toNat = 0 := (fun e => htn (by rw [e]; rfl)); obtain ⟨_, hl2⟩ := f2l ht0; have hst := b8w ht0; rw [hst] at hd; have hsb := e6h ht0; obtain ⟨u, hu⟩ : ∃ u, t - 1 = u := ⟨_, rfl⟩; rw [hu] at hsb hst hl2 hd; have hra2 := b9s t u; obtain ⟨t2, ht2⟩ : ∃ v, t &&& u = v := ⟨_, rfl⟩; rw [ht2] at hra2 hst hl2 hd; simp at hra2; have htf := f5z t.toNat (Nat.lt_of_lt_of_le t.isLt (by decide)); obtain ⟨z, hz9⟩ : ∃ z : Nat, Lib.ctz 64 t.toNat = z := ⟨_, rfl⟩; rw [hz9] at htf hd; clear hu ht2 hz9 hst; have hdd : (dn ++ [(z : Int)]) ++ a6h t2 = a6h s0 := (by simpa using hd); obtain ⟨s1, s2⟩ := s8 (Nat.le_trans (Nat.le_trans (Nat.le_add_right _ _) (Nat.le_of_eq hdl)) hb64); rotate_left)
  | ((with_reducible refine a0q ?_); refine a1b (⟨k + 1, by omega⟩) (gk5S [([6, 98], some [6, 37])] rfl (cloN _ _) (fun _ h => h.elim) ?_ ?_ ?_ ?_ ?_ ?_) ?_; (iterate 2 (focus (simp [LPXB, *, SIMB, a1l, a0w, a4r, a5a, a4g, a4j, a8y, a2v, a8x]; done))); (focus (simp [injB, bk, LPXB]; done)); (iterate 3 (focus (simp [LPXB, *, SIMB, bk_n, bk_c, inH, a1l, a0w, a4r, a5a, a4g, a4j, a8y, a2v, a8x]; done))); (focus (dsimp only; omega)))
  | ((with_reducible refine a0q ?_); refine a1b ⟨i + 1, by omega⟩ (Gk.trans (gk5S [([6, 99], some [6, 71])] rfl (cloN _ _) (fun _ h => h.elim) ?_ ?_ ?_ ?_ ?_ ?_) (f3f [6, 97] 3 1 (ints (a6h s0)) (cloN _ _) (fun _ h => h.elim) (by simp [*, SIMB, a1l, a0w, a4r]) (by simp [*, SIMB, a4r]) (by simp [*, SIMB]))) ?_; (iterate 2 (focus (simp [LPXB, *, SIMB, a1l, a0w, a4r, fz, fzs, fzss, fzO, fzT, fze, a7n, b3f, b1a, c0p, b4z]; done))); (focus (simp [injB, bk, LPXB]; done)); (iterate 3 (focus (simp [LPXB, *, SIMB, bk_n, bk_c, inH, a1l, a0w, a4r, fz, fzs, fzss, fzO, fzT, fze, a7n, b3f, b1a, c0p, b4z, a5a, a4g, a4j, a8y, a2v, a8x]; done))); (focus (dsimp only; omega)))
  | ((with_reducible refine a0q ?_); refine a1b (⟨(t2, dn ++ [(z : Int)]), hdd⟩) (gk5S [([6, 97], some [6, 67])] rfl (cloN _ _) (fun _ h => h.elim) ?_ ?_ ?_ ?_ ?_ ?_) ?_; (iterate 2 (focus (simp [LPXB, *, SIMB, a1l, a0w, a4r, a5a, a4g, a4j, a8y, a2v, a8x, a2f]; done))); (focus (simp [injB, bk, LPXB]; done)); (iterate 3 (focus (simp [LPXB, *, SIMB, bk_n, bk_c, inH, a1l, a0w, a4r, a5a, a4g, a4j, a8y, a2v, a8x, a2f]; done))); (focus (dsimp only; exact hl2)))
  | with_reducible first | refine stp ?_ | refine stpK ?_; intro K hK | refine stpC ?_; intro T E hT hE | refine stp2 ?_ ?_ <;> intro h | refine a0g rfl ?_ | refine a1e tV (by simp [nls, nl, *, NLXB]) ?_ | refine hpc tV (by simp [nls, nl, *, NLXB]) ?_ | refine a0j rfl (lbR rfl) a0i ?_ | refine a0j rfl (lbR rfl) (a0h (by simp [HPXB, a4r, ext, upd, *])) ?_ | refine a1g (by decide) (by kernel_rfl) ?_ | refine a0o (by decide) ?_ | refine Kont.go hK ?_; clear hK K | refine KT.go hT ?_; clear hT hE T E | refine KT.go hE ?_; clear hT hE T E
  | simp [*, -List.all_flatten, -List.all_eq_true, DEFB, LENB, asR, a1w, Ins.row, a1k, a4r, e8c, a0c, PFin, a1n, a0a, a1t, b5j, a2v, d3f, a8y, a8x, a6f, a3b, FnD.row]
theorem e6m (n : Nat) {P : Program} {res : List ResultVar} {r y : FV} {s : Fs} {l : List FV} (hr : resL P s res = some l) (hy : frz s.H n (a3n l) = some y) (ha : asR y r) : PEnd P res r .ret s := ⟨.inr rfl, s, Wk.refl s, l, hr, n, y, hy, ha⟩
theorem c9o  : PC Tryz.prog Gl 38 [] (.agg [.list 4 [[.str ⟨⟨[109, 97, 105, 110]⟩⟩, .int .i64 0, .int .i64 2, .list 5 [[.int .i64 18, .int .i64 0, .int .i64 0, .int .i64 0, .int .i64 0], [.int .i64 39, .int .i64 0, .int .i64 0, .int .i64 0, .int .i64 0], [.int .i64 18, .int .i64 1, .int .i64 1, .int .i64 0, .int .i64 0], [.int .i64 33, .int .i64 1, .int .i64 1, .int .i64 0, .int .i64 0], [.int .i64 18, .int .i64 0, .int .i64 0, .int .i64 0, .int .i64 0], [.int .i64 40, .int .i64 0, .int .i64 0, .int .i64 0, .int .i64 0], [.int .i64 30, .int .i64 (-1), .int .i64 0, .int .i64 0, .int .i64 0]]]], .list 2 [[.str ⟨⟨[109]⟩⟩, .int .i64 0], [.str ⟨⟨[120]⟩⟩, .int .i64 0]], .list 1 [], .int .i64 0]) := by
 refine a3s (res := [.cell 0 26]) 2 17 [] (fun d ix => 0 :: d :: ix) (fn := Tryz.f38) (by kernel_rfl) (by rfl) (by rfl) (by rfl) (by simp) (by decide) ?_
 repeat' first
  | (refine e6m 80 rfl rfl ?_; exact ⟨_, rfl, _, _, rfl, rfl, _, _, rfl, rfl, _, _, rfl, .inr ⟨1, rfl⟩, _, _, rfl, rfl, rfl⟩)
  | with_reducible first | refine stp ?_ | refine stpK ?_; intro K hK | refine stpC ?_; intro T E hT hE | refine stp2 ?_ ?_ <;> intro h | refine a0g rfl ?_ | refine a0j rfl (lbR rfl) a0i ?_ | refine a0j rfl (lbR rfl) (a0h (by simp [HPXB, ext, upd, *])) ?_ | refine a1g (by decide) (by kernel_rfl) ?_ | refine a0o (by decide) ?_ | refine Kont.go hK ?_; clear hK K | refine KT.go hT ?_; clear hT hE T E | refine KT.go hE ?_; clear hT hE T E
  | simp [*, -List.all_flatten, -List.all_eq_true, DEFB, asR, asRs, frz, frzs, frzR, frzN]
theorem d1l : PC Tryz.prog Gl 38 [] (.agg [.list 4 (fns p5.funcs), .list 2 (gbs p5.globals), .list 1 (lays p5.layouts), .int .i64 p5.main]) := c9o
theorem pgb5 : PgB p5 := ⟨by decide, by decide, by decide, fun x hx => by simp [p5] at hx, fun x hx => by simp [p5] at hx; subst hx; decide⟩
theorem b9f  : PC Tryz.prog Gl 11 [] (.bool true) := by
 have hI : PC Tryz.prog Gl 14 [.agg [.list 4 (fns p5.funcs), .list 2 (gbs p5.globals), .list 1 (lays p5.layouts), .int .i64 p5.main], .int .i64 0] (.list 1 [[.list 1 []], [.list 1 []], [.list 1 [[.int .i64 0]]], [.list 1 [[.int .i64 0]]], [.list 1 [[.int .i64 0]]], [.list 1 [[.int .i64 0]]], [.list 1 []]]) := by
  have h := t_In pgb5 d8g (f := 0) (by decide)
  rw [show p5.funcs[0].code = c5 from rfl, f7x] at h
  exact h
 have hE : PC Tryz.prog Gl 38 [] (.agg [.list 4 (fns p5.funcs), .list 2 (gbs p5.globals), .list 1 (lays p5.layouts), .int .i64 p5.main]) := d1l
 have w1 : IntKind.wrap .i64 1 = 1 := by decide
 have w2 : IntKind.wrap .i64 2 = 2 := by decide
 have w3 : IntKind.wrap .i64 3 = 3 := by decide
 have w4 : IntKind.wrap .i64 4 = 4 := by decide
 have w5 : IntKind.wrap .i64 5 = 5 := by decide
 have w6 : IntKind.wrap .i64 6 = 6 := by decide
 have w7 : IntKind.wrap .i64 7 = 7 := by decide
 refine a3s (res := [.tmp 0]) 3 25 [] (fun d ix => 0 :: d :: ix) (fn := Tryz.f11) (by kernel_rfl) (by rfl) (by rfl) (by rfl) (by simp) (by decide) ?_
 repeat' first
  | ((with_reducible refine a1a ?_); refine a1q (σ := {i : Nat // i <= 7}) (fun y => [(2, .int .i64 (y.1 : Int))]) [] (fun y => []) [] (fun y => []) (fun y => noH) (fun y => 7 - y.1) ⟨0, by simp⟩ (gk3 (j := 0) [] (Bs.pc _) ?_ ?_ ?_ ?_ ?_ ?_ ?_) ?_; (iterate 7 (focus (first | rfl | (simp [LPXB, *, SIMB, hdN, injB]; done)))); rintro ⟨i, hi⟩; simp only [lpS, LPXB]; (try dsimp only at hi); have h8 : i = 0 \/ i = 1 \/ i = 2 \/ i = 3 \/ i = 4 \/ i = 5 \/ i = 6 \/ i = 7 := (by omega); rcases h8 with rfl | rfl | rfl | rfl | rfl | rfl | rfl | rfl)
  | ((with_reducible refine a0q ?_); refine a1b (⟨1, by omega⟩) (gk3 (j := 0) [] (Bs.pc _) ?_ ?_ ?_ ?_ ?_ ?_ ?_) ?_; (iterate 7 (focus (first | rfl | (simp [LPXB, *, SIMB, hdN, injB]; done)))); (focus (dsimp only; omega)))
  | ((with_reducible refine a0q ?_); refine a1b (⟨2, by omega⟩) (gk3 (j := 0) [] (Bs.pc _) ?_ ?_ ?_ ?_ ?_ ?_ ?_) ?_; (iterate 7 (focus (first | rfl | (simp [LPXB, *, SIMB, hdN, injB]; done)))); (focus (dsimp only; omega)))
  | ((with_reducible refine a0q ?_); refine a1b (⟨3, by omega⟩) (gk3 (j := 0) [] (Bs.pc _) ?_ ?_ ?_ ?_ ?_ ?_ ?_) ?_; (iterate 7 (focus (first | rfl | (simp [LPXB, *, SIMB, hdN, injB]; done)))); (focus (dsimp only; omega)))
  | ((with_reducible refine a0q ?_); refine a1b (⟨4, by omega⟩) (gk3 (j := 0) [] (Bs.pc _) ?_ ?_ ?_ ?_ ?_ ?_ ?_) ?_; (iterate 7 (focus (first | rfl | (simp [LPXB, *, SIMB, hdN, injB]; done)))); (focus (dsimp only; omega)))
  | ((with_reducible refine a0q ?_); refine a1b (⟨5, by omega⟩) (gk3 (j := 0) [] (Bs.pc _) ?_ ?_ ?_ ?_ ?_ ?_ ?_) ?_; (iterate 7 (focus (first | rfl | (simp [LPXB, *, SIMB, hdN, injB]; done)))); (focus (dsimp only; omega)))
  | ((with_reducible refine a0q ?_); refine a1b (⟨6, by omega⟩) (gk3 (j := 0) [] (Bs.pc _) ?_ ?_ ?_ ?_ ?_ ?_ ?_) ?_; (iterate 7 (focus (first | rfl | (simp [LPXB, *, SIMB, hdN, injB]; done)))); (focus (dsimp only; omega)))
  | ((with_reducible refine a0q ?_); refine a1b (⟨7, by omega⟩) (gk3 (j := 0) [] (Bs.pc _) ?_ ?_ ?_ ?_ ?_ ?_ ?_) ?_; (iterate 7 (focus (first | rfl | (simp [LPXB, *, SIMB, hdN, injB]; done)))); (focus (dsimp only; omega)))
  | with_reducible first | refine stp ?_ | refine stpK ?_; intro K hK | refine stpC ?_; intro T E hT hE | refine stp2 ?_ ?_ <;> intro h | refine a0g rfl ?_ | refine a1e hE (by simp [nls, nl, *, NLXB]) ?_ | refine hpc hE (by simp [nls, nl, *, NLXB]) ?_ | refine a1e hI (by simp [nls, nl, *, NLXB]) ?_ | refine hpc hI (by simp [nls, nl, *, NLXB]) ?_ | refine a0j rfl (lbR rfl) a0i ?_ | refine a0j rfl (lbR rfl) (a0h (by simp [HPXB, ext, upd, *])) ?_ | refine a1g (by decide) (by kernel_rfl) ?_ | refine a0o (by decide) ?_ | refine Kont.go hK ?_; clear hK K | refine KT.go hT ?_; clear hT hE T E | refine KT.go hE ?_; clear hT hE T E
  | simp [*, -List.all_flatten, -List.all_eq_true, DEFB, asR]
theorem c7p {p : Pg} {x : Pts} {c : List Ins} {i : Nat} (hi : i < c.length) {v : Nat} (hv : v < 64) : (((hdG 64 c)[i]'(by rw [a6f]; exact hi)) &&& b0y p x).getLsbD v = true ↔ Hd 64 c (hd c i) v /\ (b0y p x).getLsbD v = true := by
 rw [BitVec.getLsbD_and, bA_]
 have e : (hdG 64 c)[i]'(by rw [a6f]; exact hi) = (hdG 64 c).getD i 0 := by rw [gD_, gE_ (by rw [a6f]; exact hi)]; rfl
 rw [e, d5c hi hv]
theorem c0k {p : Pg} {x : Pts} {c : List Ins} {i : Nat} (h : i < (a6x p x c).length) {v : Int} : v ∈ (a6x p x c)[i] ↔ ∃ w : Nat, w < 64 /\ v = (w : Int) /\ Hd 64 c (hd c i) w /\ (b0y p x).getLsbD w = true := by
 have hi : i < c.length := by rwa [b6i] at h
 rw [c0l h, d3u]
 constructor
 . rintro ⟨h0, hb⟩
   have h64 : v.toNat < 64 := by
    rcases Nat.lt_or_ge v.toNat 64 with h1 | h1
    . exact h1
    . rw [BitVec.getLsbD_of_ge _ _ h1] at hb; cases hb
   exact ⟨v.toNat, h64, by omega, (c7p hi h64).1 hb⟩
 . rintro ⟨w, h64, rfl, hb⟩
   exact ⟨by omega, by rw [tN_]; exact (c7p hi h64).2 hb⟩
theorem d4y {p : Pg} {x : Pts} {c : List Ins} {i : Nat} (h : i < (a6x p x c).length) (hn : ∀ v, ¬ Hd 64 c (hd c i) v) : (a6x p x c)[i] = [] :=
 List.eq_nil_iff_forall_not_mem.2 fun v hv => by
  obtain ⟨w, _, _, h2, _⟩ := (c0k h).1 hv
  exact hn w h2
theorem d4z {p : Pg} {x : Pts} {c : List Ins} (hc : CodeOk c) {i : Nat} (hi : i < c.length) (hr : Rc c (hd c i)) {w : Int} (hw : w ∈ nx c i) (hl : w.toNat < (a6x p x c).length) (hil : i < (a6x p x c).length) {v : Int} (hv : v ∈ (a6x p x c)[w.toNat]) : (usC c i = v -> c[i].op = 39) /\ (¬ usC c i = v -> hasI (a6x p x c)[i] v = true) := by
 obtain ⟨n, h64, rfl, h1, h2⟩ := (c0k hl).1 hv
 obtain ⟨_, hwl, hwo⟩ := a7y hc hw
 rw [a6y hwl hwo] at h1
 have h51 : c[i].op ≠ 51 := fun e => by
  rw [c3y hi, if_pos (.inr e)] at hw; cases hw
 have hr' := hr
 rw [a6y hi h51] at hr'
 have h3 := (Hd.post 64 c).2.2 i hi hr' w hw n h1
 constructor
 . intro e; rw [if_pos e] at h3; exact h3
 . intro e
   rw [if_neg e] at h3
   exact decide_eq_true ((c0k hil).2 ⟨n, h64, rfl, by rw [a6y hi h51]; exact h3, h2⟩)
theorem f8k {p : Pg} (hb : PgB p) (hv : a2c p = true) (f : Nat) (hf : f < p.funcs.length) : ∃ nm pa rg c, p.funcs[f] = ⟨nm, pa, rg, c⟩ /\ FOk p f nm pa rg c /\ ∃ HL : List (List Int), HL.length = c.length /\ (∀ h : 0 < HL.length, HL[0].length = 0) /\ (∀ i (h : i < HL.length) (h' : i < (a4h c).length), (a4h c)[i] = false -> HL[i].length = 0) /\
 (∀ i (hi : i < c.length) (h : i < HL.length) (h' : i < (a4h c).length), (a4h c)[i] = true -> ∀ k (hk : k < (nx c i).length) (hw : ((nx c i)[k]).toNat < HL.length) j (hj : j < HL[((nx c i)[k]).toNat].length), (usC c i = HL[((nx c i)[k]).toNat][j] -> c[i].op = 39) /\ (¬ usC c i = HL[((nx c i)[k]).toNat][j] -> hasI HL[i] HL[((nx c i)[k]).toNat][j] = true)) /\
 (∀ i (h : i < HL.length), HL[i].length <= 64) /\ PC Tryz.prog Gl 14 [.agg [.list 4 (fns p.funcs), .list 2 (gbs p.globals), .list 1 (lays p.layouts), .int .i64 p.main], .int .i64 f] (.list 1 (lays HL)) := by
 obtain ⟨⟨nm, pa, rg, c⟩, hfd⟩ : ∃ fd, p.funcs[f] = fd := ⟨_, rfl⟩
 have hF := fok hv hf hfd
 have t := t_In hb hv hf
 rw [hfd] at t
 refine ⟨nm, pa, rg, c, hfd, hF, a6x p (lfpP p) c, b6i _ _ _, fun h => ?_, fun i h h' hr => ?_, fun i hi h h' hr k hk hw j hj => ?_, fun i h => ?_, t⟩
 . rw [d4y h fun v => (Hd.post 64 c).1 v]; rfl
 . rw [d4y h fun v hv => ?_]
   . rfl
   . have := ((Hd.post 64 c).2.1 _ _ hv).1
     rw [<- b5t h', hr] at this; cases this
 . exact d4z hF.hc hi ((b5t h').1 hr) (gm_ hk) hw h (gm_ hj)
 . rw [c0l h]; exact c3e _
theorem f6h {p : Pg} (hb : PgB p) (h0 : ¬ (b8o p = false /\ a2c p = true)) : PC Tryz.prog Gl 4 [.agg [.list 4 (fns p.funcs), .list 2 (gbs p.globals), .list 1 (lays p.layouts), .int .i64 p.main]] (.bool true) := by
 have hg := d1k p hb.f hb.c
 have hV : PC Tryz.prog Gl 17 [.agg [.list 4 (fns p.funcs), .list 2 (gbs p.globals), .list 1 (lays p.layouts), .int .i64 p.main]] (.bool (a2c p)) := c21 p hb.f hb.g hb.l hb.ll hb.c
 have hfb := hb.f
 cases g1 : b8o p
 all_goals rw [g1] at hg
 all_goals cases g3 : a2c p
 all_goals rw [g3] at hV
 all_goals first | (exfalso; exact h0 ⟨g1, g3⟩) | skip
 all_goals clear h0
 all_goals
  refine a3s (res := [.tmp 2]) 13 150 [] (fun d ix => 0 :: d :: ix) (fn := Tryz.f4) (by kernel_rfl) (by rfl) (by rfl) (by rfl) (by simp) (by decide) ?_
  repeat' first
   | with_reducible first | refine stp ?_ | refine stpK ?_; intro K hK | refine stpC ?_; intro T E hT hE | refine stp2 ?_ ?_ <;> intro h | refine a0g rfl ?_ | refine a1e b9f (by simp [nls, nl, *, NLXB]) ?_ | refine hpc b9f (by simp [nls, nl, *, NLXB]) ?_ | refine a1e hg (by simp [nls, nl, *, NLXB]) ?_ | refine hpc hg (by simp [nls, nl, *, NLXB]) ?_ | refine a1e hV (by simp [nls, nl, *, NLXB]) ?_ | refine hpc hV (by simp [nls, nl, *, NLXB]) ?_ | refine a0j rfl (lbR rfl) a0i ?_ | refine a0j rfl (lbR rfl) (a0h (by simp [HPXB, ext, upd, *])) ?_ | refine a1g (by decide) (by kernel_rfl) ?_ | refine a0o (by decide) ?_ | refine Kont.go hK ?_; clear hK K | refine KT.go hT ?_; clear hT hE T E | refine KT.go hE ?_; clear hT hE T E
   | simp [*, -List.all_flatten, -List.all_eq_true, DEFB, LENB, asR, a1w, FnD.row, Ins.row, a0d, a4s, a3u, a0f]
end Go.Je
