/- Parts of the proof. -/
import Derived.Test.YtfhhgjbcenhdeaaGreatDoorH38
set_option linter.unusedSimpArgs false
set_option linter.unusedVariables false
namespace Go.Je
open Go Go.FM Go.Gv Go.Proofs
set_option maxRecDepth 100000
set_option maxHeartbeats 40000000
theorem a4t : ptrs 0 = [] := rfl
theorem a2v {β : FM.Loc -> Option FM.Loc} (h : ∀ f, β [95, f] = some [95, f]) (n : Nat) : renss β (ptrs n) = ptrs n := by
 have key : ∀ l : List Nat, renss β (l.map fun f => [FV.ptr [95, f] 11 0 0]) = l.map fun f => [FV.ptr [95, f] 11 0 0] := by
  intro l
  induction l with
  | nil => rfl
  | cons a l ih =>
    show rens β [FV.ptr [95, a] 11 0 0] :: renss β _ = _
    rw [ih]
    simp [rens, ren, h]
 exact key _
theorem c7z {L : List (FM.Loc × FO)} {B : Heap} {p : Pg} {k f : Nat} {nm : ByteArray} {pa rg : Int} {c : List Ins} (hk : f < k) (hf : f < p.funcs.length) (e : p.funcs[f] = ⟨nm, pa, rg, c⟩) : HP L B (famA p k) [95, f] = some (.cells 72 11 [[.list 4 (fns p.funcs), .list 2 (gbs p.globals), .list 1 (lays p.layouts), .int .i64 p.main, .int .i64 f, .str nm, .int .i64 pa, .int .i64 rg, .list 5 (inss c), .sl [96, f] 1 0 c.length, .sl [97, f] 1 0 c.length]]) /\ HP L B (famA p k) [96, f] = some (.cells 3 1 (ints (usL c))) /\ HP L B (famA p k) [97, f] = some (.cells 68 1 (u64s (hdG 64 c))) := by
 obtain ⟨h1, h2, h3⟩ := c3y (k := k) hk hf e
 exact ⟨a9f h1, a9f h2, a9f h3⟩
theorem d6h {L : List (FM.Loc × FO)} {B : Heap} {p : Pg} {k f : Nat} (hk : f < k) (hl : k <= p.funcs.length) : HP L B (famA p k) [95, f] ≠ none := by
 obtain ⟨⟨nm, pa, rg, c⟩, e⟩ : ∃ y, p.funcs[f]'(by omega) = y := ⟨_, rfl⟩
 rw [(c7z hk (by omega) e).1]; simp
theorem a2w {β : FM.Loc -> Option FM.Loc} {L : List (FM.Loc × FO)} {B : Heap} {p : Pg} {n k : Nat} (h : ∀ f, β [95, f] = some [95, f]) (hn : n <= k) (hl : k <= p.funcs.length) : a8e β (inH (HP L B (famA p k))) (ptrs n) := by
 have key : ∀ l : List Nat, (∀ f ∈ l, f < k) -> a8e β (inH (HP L B (famA p k))) (l.map fun f => [FV.ptr [95, f] 11 0 0]) := by
  intro l hl2
  induction l with
  | nil => trivial
  | cons a l ih => exact ⟨⟨⟨d6h (hl2 a (by simp)) hl, by rw [h]; rfl⟩, trivial⟩, ih fun f hf => hl2 f (by simp [hf])⟩
 exact key _ fun f hf => by have := List.mem_range.1 hf; omega
theorem b8f {L : List (FM.Loc × FO)} {B : Heap} {p : Pg} {n k : Nat} (hn : n <= k) (hl : k <= p.funcs.length) : a3o (inH (HP L B (famA p k))) (ptrs n) := by
 have key : ∀ l : List Nat, (∀ f ∈ l, f < k) -> a3o (inH (HP L B (famA p k))) (l.map fun f => [FV.ptr [95, f] 11 0 0]) := by
  intro l hl2
  induction l with
  | nil => trivial
  | cons a l ih => exact ⟨⟨d6h (hl2 a (by simp)) hl, trivial⟩, ih fun f hf => hl2 f (by simp [hf])⟩
 exact key _ fun f hf => by have := List.mem_range.1 hf; omega
theorem g1q {L : List (FM.Loc × FO)} {p : Pg} {k : Nat} (ho : ninL (inH (HP L noH (famA p k))) L) : Clo (ext (updL L noH) (famA p k)) := fun l o hl => by
 cases e : famA p k l with
 | some ob =>
   have h2 : ext (updL L noH) (famA p k) l = some ob := a8q e
   rw [h2] at hl
   obtain rfl := Option.some.inj hl
   refine a4g (fun q hq hn => hq (a0h.1 hn).1) (c6z p k l ob e)
 | none =>
   have h2 : ext (updL L noH) (famA p k) l = updL L noH l := b6y e
   rw [h2] at hl
   rcases a6s hl with h | ⟨_, h⟩
   . exact a9i ho _ h
   . cases h
theorem d8b {L : List (FM.Loc × FO)} (hn : hdN 6 (L.map Prod.fst) = true) {q : Nat} {r : List Nat} (h : q ≠ 6) : updL L noH (q :: r) = none := by
 rw [a6b fun p hp e => ?_]
 . rfl
 . obtain ⟨r', hr⟩ := a8f hn p.1 (List.mem_map.2 ⟨p, hp, rfl⟩)
   rw [e] at hr
   simp only [List.cons.injEq] at hr
   exact h hr.1
theorem e3d {L : List (FM.Loc × FO)} {p : Pg} {k : Nat} (hn : hdN 6 (L.map Prod.fst) = true) (ho : ninL (inH (HP L noH (famA p k))) L) : BsL k (ext (updL L noH) (famA p k)) := by
 obtain ⟨n5, n6, n7⟩ := d9m (p := p) (k := k)
 exact ⟨fun q r hq => a0h.2 ⟨a3l p k (by omega), d8b hn (by omega)⟩, a0h.2 ⟨n5, d8b hn (by omega)⟩, a0h.2 ⟨n6, d8b hn (by omega)⟩, a0h.2 ⟨n7, d8b hn (by omega)⟩, g1q ho⟩
theorem g1x {L : List (FM.Loc × FO)} {p : Pg} {k : Nat} (e : k = p.funcs.length) (hn : hdN 6 (L.map Prod.fst) = true) (ho : ninL (inH (HP L noH (famA p k))) L) (hl : updL L noH [6, 98] = some (.cells 65 1 (ptrs k))) : BsD p (ext (updL L noH) (famA p k)) := by
 subst e
 refine ⟨(e3d hn ho).toH, (b6y (a3l p _ (by omega))).trans hl, fun f nm pa rg c hF => ?_⟩
 obtain ⟨h1, h2, h3⟩ := c3y hF.hf hF.hf hF.e
 exact ⟨a8q h1, a8q h2, a8q h3⟩
theorem cloN (p : Pg) (k : Nat) : Clo (ext noH (famA p k)) := (bsF p k).clo
theorem e5a {s : BitVec 64} (h : s ≠ 0) : IntKind.wrap .u64 ((s.toNat : Int) - 1) = ((s - 1).toNat : Int) := by
 have h0 : s.toNat ≠ 0 := fun e => h (BitVec.eq_of_toNat_eq (by simpa using e))
 have hl := s.isLt
 have e1 : (s - 1).toNat = s.toNat - 1 := by
  rw [BitVec.toNat_sub]
  have : (1 : BitVec 64).toNat = 1 := rfl
  rw [this]; omega
 rw [IntKind.wrap_u64, e1]; omega
theorem b5b {p : Pg} {x : Pts} {c : List Ins} {i : Nat} (h : i < (a8t p x c).length) : (a8t p x c)[i] = a7e ((hdG 64 c)[i]'(by simpa [a8t] using h) &&& b1y p x) := by simp [a8t]
theorem b2r (p : Pg) (x : Pts) (c : List Ins) : (a8t p x c).length = c.length := by simp [a8t, a8g]
theorem s8 {n : Nat} (h : n <= 64) : (n + 1 + (n + 1) / 4 + 192) * 8 <= 140737488355328 /\ n <= 4611686018427387903 := by omega
theorem a3h (k r : Nat) (sz : Nat) (xs : List (List FV)) (n : Nat) (h : k ≠ 95) : fzss [k, r] sz xs (ptrs n) = ptrs n := by
 have key : ∀ l : List Nat, fzss [k, r] sz xs (l.map fun f => [FV.ptr [95, f] 11 0 0]) = l.map fun f => [FV.ptr [95, f] 11 0 0] := by
  intro l
  induction l with
  | nil => rfl
  | cons a l ih =>
    show fzs [k, r] sz xs [FV.ptr [95, a] 11 0 0] :: fzss [k, r] sz xs _ = _
    rw [ih]
    simp [fzs, fz, Ne.symm h]
 exact key _
theorem e6t {H : Heap} {xs : List (List FV)} (h : nlss xs = true) (k : Nat) : frzR H (k + 1) xs = some xs := by unfold frzR; rw [if_pos h]
theorem e6c {l : List (List Int)} {i : Nat} (h : i < l.length) : lays (l.take i) ++ [[.list 1 (ints l[i])]] = lays (l.take (i + 1)) := by
 rw [List.take_succ_eq_append_getElem h, a0l]; rfl
theorem t_In {p : Pg} (hb : PgB p) (hv : a3g p = true) {f : Nat} (hf : f < p.funcs.length) : PC Tryz.prog Gl 14 [.agg [.list 4 (fns p.funcs), .list 2 (gbs p.globals), .list 1 (lays p.layouts), .int .i64 p.main], .int .i64 f] (.list 1 (lays (a8t p (lfpP p) (p.funcs[f]).code))) := by
 have hp := vOk hv
 have hnf := hp.nf
 have tV : PC Tryz.prog Gl 39 [.agg [.list 4 (fns p.funcs), .list 2 (gbs p.globals), .list 1 (lays p.layouts), .int .i64 p.main]] (.bool (a3g p)) := by rw [<- b9a]; exact c19 p hb.f hb.g hb.l hb.ll hb.c
 rw [hv] at tV
 obtain ⟨⟨nm, pa, rg, c⟩, hfd⟩ : ∃ fd, p.funcs[f] = fd := ⟨_, rfl⟩
 have hF := fok hv hf hfd
 rw [hfd]
 show PC Tryz.prog Gl 14 [.agg [.list 4 (fns p.funcs), .list 2 (gbs p.globals), .list 1 (lays p.layouts), .int .i64 p.main], .int .i64 f] (.list 1 (lays (a8t p (lfpP p) c)))
 have h1000 := hF.hc.n1000
 have hfi : (f : Int) < (p.funcs.length : Int) := by omega
 have hf0 : ¬ (f : Int) < 0 := by omega
 have hf1 : ¬ (p.funcs.length : Int) <= (f : Int) := by omega
 obtain ⟨s95, s96, s97⟩ : (∀ L, HP L noH (famA p p.funcs.length) [95, f] = some (.cells 72 11 [[.list 4 (fns p.funcs), .list 2 (gbs p.globals), .list 1 (lays p.layouts), .int .i64 p.main, .int .i64 f, .str nm, .int .i64 pa, .int .i64 rg, .list 5 (inss c), .sl [96, f] 1 0 c.length, .sl [97, f] 1 0 c.length]])) /\ (∀ L, HP L noH (famA p p.funcs.length) [96, f] = some (.cells 3 1 (ints (usL c)))) /\ ∀ L, HP L noH (famA p p.funcs.length) [97, f] = some (.cells 68 1 (u64s (hdG 64 c))) := ⟨fun L => (c7z hf hf hfd).1, fun L => (c7z hf hf hfd).2.1, fun L => (c7z hf hf hfd).2.2⟩
 have hgl := a8g (N := 64) c
 have tD := fun {B : Heap} (hB : BsD p B) => f3k hb hv hB
 have hHl := b2r p (lfpP p) c
 have hHL : ∀ i (h : i < (a8t p (lfpP p) c).length) (h2 : i < (hdG 64 c).length), (a8t p (lfpP p) c)[i] = a7e ((hdG 64 c)[i] &&& b1y p (lfpP p)) := fun i h _ => b5b h
 obtain ⟨HL, hHe⟩ : ∃ HL, a8t p (lfpP p) c = HL := ⟨_, rfl⟩
 rw [hHe] at hHl hHL ⊢
 generalize b1y p (lfpP p) = M at tD hHL
 clear hHe
 refine a6n (res := [.tmp 4]) 12 74 [29, 28, 50, 49, 48] (fun d ix => 6 :: d :: ix) (fn := Tryz.f14) (by kernel_rfl) (by rfl) (by rfl) (by rfl) (by simp) (by decide) ?_
 repeat' first
  | ((with_reducible refine cgB ?_); refine e0j rfl hlt hfd (d0g hF (f6e hv hF) (e3d ?_ ?_)) ?_; (focus rfl); (focus (simp [ninL, ninO, a3o, nins, nin, a0d, a0g, a0a, a0c, a0b, a1x, b8f, a6f, a6l, bRow, *]; done)))
  | ((with_reducible refine cgB ?_); refine c7m rfl (tD (g1x rfl ?_ ?_ ?_)) ?_; (focus rfl); (focus (simp [ninL, ninO, a3o, nins, nin, a0d, a0g, a0a, a0c, a0b, a1x, b8f, a6f, a6l, bRow, *]; done)); (focus (simp [a1w, a2d]; done)))
  | ((with_reducible refine cgB ?_); refine ⟨rfl, _, _, htf _, ?_⟩)
  | ((with_reducible refine a2c ?_); refine a3f (σ := {k : Nat // k <= p.funcs.length}) (fun y => [(5, .sl [6, 98] 1 0 y.1), (6, .undef)]) [28] (fun y => [(29, .int .i64 (y.1 : Int))]) [] (fun y => [([6, 98], .cells 65 1 (ptrs y.1))]) (fun y => famA p y.1) (fun y => p.funcs.length - y.1) ⟨0, by simp⟩ (gk5S [([6, 98], none)] (f6i p) c5pc (fun _ h => h.elim) ?_ ?_ ?_ ?_ ?_ ?_) ?_; (focus (simp [LPXB, *, SIMB, a0n, a0h, a3l, a3h, a2v, a2w, a4t, a2l, a4s]; done)); (focus (simp [LPXB, *, SIMB, a0n, a0h, a3l, a3h, a2v, a2w, a4t, a2l, a4s]; done)); (focus (simp [injB, bk, LPXB]; done)); (focus (simp [LPXB, *, SIMB, bk_n, bk_c, inH, a0n, a0h, a3l, a3h, a2v, a2w, a4t, a2l, a4s]; done)); (focus (simp [LPXB, *, SIMB, bk_n, bk_c, inH, a0n, a0h, a3l, a3h, a2v, a2w, a4t, a2l, a4s]; done)); (focus (simp [LPXB, *, SIMB, bk_n, bk_c, inH, a0n, a0h, a3l, a3h, a2v, a2w, a4t, a2l, a4s]; done)); rintro ⟨k, hk⟩; simp only [lpS, LPXB]; (try dsimp only at hk); rcases a1y hk with hlt | ⟨hlt, e⟩; rotate_left; subst e; rotate_left; have wk := wli hlt (by omega); have hkl : (k : Int) < (p.funcs.length : Int) := (by omega); have hk1 : k + 1 <= p.funcs.length := hlt; obtain ⟨⟨nm, pa, rgs, c⟩, hfd⟩ : ∃ fd, p.funcs[k] = fd := ⟨_, rfl⟩; have hF := fok hv hlt hfd; have s1 : (k + 1 + (k + 1) / 4 + 192) * 8 <= 140737488355328 := (by omega); have s2 : k <= 4611686018427387903 := (by omega); have htk : (ptrs k).take k = ptrs k := List.take_of_length_le (by rw [a2l]; omega); rotate_left)
  | ((with_reducible refine a2c ?_); refine a3f (σ := {i : Nat // i <= c.length}) (fun y => [(8, .sl [6, 99] 1 0 y.1), (10, .undef), (11, .undef)]) [48, 49] (fun y => [(50, .int .i64 (y.1 : Int))]) [] (fun y => [([6, 99], .cells 36 1 (lays (HL.take y.1)))]) (fun y => famA p p.funcs.length) (fun y => c.length - y.1) ⟨0, by simp⟩ (gk5S [([6, 99], none)] rfl (cloN _ _) (fun _ h => h.elim) ?_ ?_ ?_ ?_ ?_ ?_) ?_; (focus (simp [LPXB, *, SIMB, a0n, a0h, a3l, a3h, a2v, a2w, a4t, a2l, a4s, List.take_zero, a0w]; done)); (focus (simp [LPXB, *, SIMB, a0n, a0h, a3l, a3h, a2v, a2w, a4t, a2l, a4s, List.take_zero, a0w]; done)); (focus (simp [injB, bk, LPXB]; done)); (focus (simp [LPXB, *, SIMB, bk_n, bk_c, inH, a0n, a0h, a3l, a3h, a2v, a2w, a4t, a2l, a4s, List.take_zero, a0w]; done)); (focus (simp [LPXB, *, SIMB, bk_n, bk_c, inH, a0n, a0h, a3l, a3h, a2v, a2w, a4t, a2l, a4s, List.take_zero, a0w]; done)); (focus (simp [LPXB, *, SIMB, bk_n, bk_c, inH, a0n, a0h, a3l, a3h, a2v, a2w, a4t, a2l, a4s, List.take_zero, a0w]; done)); rintro ⟨i, hi⟩; simp only [lpS, LPXB]; (try dsimp only at hi); have htl : (HL.take i).length = i := (by rw [List.length_take]; omega); have htt : (lays (HL.take i)).take i = lays (HL.take i) := List.take_of_length_le (by rw [a0i]; omega); rcases a1y hi with hil | ⟨hil, e⟩; rotate_left; subst e; have htk : HL.take c.length = HL := List.take_of_length_le (by omega); have htk2 : (lays HL).take c.length = lays HL := List.take_of_length_le (by rw [a0i]; omega); rotate_left; have wi := wli hil (by omega); have hri : i < (hdG 64 c).length := (by omega); obtain ⟨gi, hgi⟩ : ∃ g, (hdG 64 c)[i] = g := ⟨_, rfl⟩; have hra := b9p gi M; obtain ⟨s0, hs0⟩ : ∃ s, gi &&& M = s := ⟨_, rfl⟩; rw [hs0] at hra; simp at hra; have hHi : i < HL.length := (by omega); have hrow : HL[i] = a7e s0 := (by rw [hHL i hHi hri, hgi, hs0]); have hlt2 := e6c hHi; rw [hrow] at hlt2; have hz := szn (n := i + 1) (k := 24) (by omega) (by decide); have hz2 : i <= 4611686018427387903 := (by omega))
  | ((with_reducible refine a2c ?_); refine a3f (σ := {y : BitVec 64 × List Int // y.2 ++ a7e y.1 = a7e s0}) (fun y => [(10, .int .u64 (y.1.1.toNat : Int)), (11, .sl [6, 97] 1 0 y.1.2.length)]) [48, 49, 50] (fun y => []) [] (fun y => [([6, 97], .cells 3 1 (ints y.1.2))]) (fun y => famA p p.funcs.length) (fun y => (a7e y.1.1).length) ⟨(s0, []), by simp⟩ (gk5S [([6, 97], none)] rfl (cloN _ _) (fun _ h => h.elim) ?_ ?_ ?_ ?_ ?_ ?_) ?_; (focus (simp [LPXB, *, SIMB, a0n, a0h, a3l, a3h, a2v, a2w, a4t, a2l, a4s, a0u]; done)); (focus (simp [LPXB, *, SIMB, a0n, a0h, a3l, a3h, a2v, a2w, a4t, a2l, a4s, a0u]; done)); (focus (simp [injB, bk, LPXB]; done)); (focus (simp [LPXB, *, SIMB, bk_n, bk_c, inH, a0n, a0h, a3l, a3h, a2v, a2w, a4t, a2l, a4s, a0u]; done)); (focus (simp [LPXB, *, SIMB, bk_n, bk_c, inH, a0n, a0h, a3l, a3h, a2v, a2w, a4t, a2l, a4s, a0u]; done)); (focus (simp [LPXB, *, SIMB, bk_n, bk_c, inH, a0n, a0h, a3l, a3h, a2v, a2w, a4t, a2l, a4s, a0u]; done)); rintro ⟨⟨t, dn⟩, hd⟩; simp only [lpS, LPXB]; (try dsimp only at hd); have hb64 := c2s s0; have hdl : dn.length + (a7e t).length = (a7e s0).length := (by rw [<- hd, List.length_append]); by_cases ht0 : t = 0; subst ht0; rw [e9i, List.append_nil] at hd; subst hd; have hz0 : ((0 : BitVec 64).toNat : Int) = 0 := rfl; rotate_left; have htn : ¬ (t.toNat : Int) = 0 := (fun e => ht0 (BitVec.eq_of_toNat_eq (by simpa using e))); have htn2 : ¬ t.toNat = 0 := (fun e => htn (by rw [e]; rfl)); obtain ⟨_, hl2⟩ := f5b ht0; have hst := b8r ht0; rw [hst] at hd; have hsb := e5a ht0; obtain ⟨u, hu⟩ : ∃ u, t - 1 = u := ⟨_, rfl⟩; rw [hu] at hsb hst hl2 hd; have hra2 := b9p t u; obtain ⟨t2, ht2⟩ : ∃ v, t &&& u = v := ⟨_, rfl⟩; rw [ht2] at hra2 hst hl2 hd; simp at hra2; have htf := g7f t.toNat (Nat.lt_of_lt_of_le t.isLt (by decide)); obtain ⟨z, hz9⟩ : ∃ z : Nat, Lib.ctz 64 t.toNat = z := ⟨_, rfl⟩; rw [hz9] at htf hd; clear hu ht2 hz9 hst; have hdd : (dn ++ [(z : Int)]) ++ a7e t2 = a7e s0 := (by simpa using hd); obtain ⟨s1, s2⟩ := s8 (Nat.le_trans (Nat.le_trans (Nat.le_add_right _ _) (Nat.le_of_eq hdl)) hb64); rotate_left)
  | ((with_reducible refine a1m ?_); refine a2a (⟨k + 1, by omega⟩) (gk5S [([6, 98], some [6, 37])] rfl (cloN _ _) (fun _ h => h.elim) ?_ ?_ ?_ ?_ ?_ ?_) ?_; (focus (simp [LPXB, *, SIMB, a0n, a0h, a3l, a3h, a2v, a2w, a4t, a2l, a4s]; done)); (focus (simp [LPXB, *, SIMB, a0n, a0h, a3l, a3h, a2v, a2w, a4t, a2l, a4s]; done)); (focus (simp [injB, bk, LPXB]; done)); (focus (simp [LPXB, *, SIMB, bk_n, bk_c, inH, a0n, a0h, a3l, a3h, a2v, a2w, a4t, a2l, a4s]; done)); (focus (simp [LPXB, *, SIMB, bk_n, bk_c, inH, a0n, a0h, a3l, a3h, a2v, a2w, a4t, a2l, a4s]; done)); (focus (simp [LPXB, *, SIMB, bk_n, bk_c, inH, a0n, a0h, a3l, a3h, a2v, a2w, a4t, a2l, a4s]; done)); (focus (dsimp only; omega)))
  | ((with_reducible refine a1m ?_); refine a2a ⟨i + 1, by omega⟩ (Gk.trans (gk5S [([6, 99], some [6, 71])] rfl (cloN _ _) (fun _ h => h.elim) ?_ ?_ ?_ ?_ ?_ ?_) (b6m [6, 97] 3 1 (ints (a7e s0)) (cloN _ _) (fun _ h => h.elim) (by simp [*, SIMB, a0n, a0h, a3l]) (by simp [*, SIMB, a3l]) (by simp [*, SIMB]))) ?_; (focus (simp [LPXB, *, SIMB, a0n, a0h, a3l, fz, fzs, fzss, fzO, fzT, fze, a1s, a2y, a3k, a3d, a2o]; done)); (focus (simp [LPXB, *, SIMB, a0n, a0h, a3l, fz, fzs, fzss, fzO, fzT, fze, a1s, a2y, a3k, a3d, a2o]; done)); (focus (simp [injB, bk, LPXB]; done)); (focus (simp [LPXB, *, SIMB, bk_n, bk_c, inH, a0n, a0h, a3l, fz, fzs, fzss, fzO, fzT, fze, a1s, a2y, a3k, a3d, a2o, a3h, a2v, a2w, a4t, a2l, a4s]; done)); (focus (simp [LPXB, *, SIMB, bk_n, bk_c, inH, a0n, a0h, a3l, fz, fzs, fzss, fzO, fzT, fze, a1s, a2y, a3k, a3d, a2o, a3h, a2v, a2w, a4t, a2l, a4s]; done)); (focus (simp [LPXB, *, SIMB, bk_n, bk_c, inH, a0n, a0h, a3l, fz, fzs, fzss, fzO, fzT, fze, a1s, a2y, a3k, a3d, a2o, a3h, a2v, a2w, a4t, a2l, a4s]; done)); (focus (dsimp only; omega)))
  | ((with_reducible refine a1m ?_); refine a2a (⟨(t2, dn ++ [(z : Int)]), hdd⟩) (gk5S [([6, 97], some [6, 67])] rfl (cloN _ _) (fun _ h => h.elim) ?_ ?_ ?_ ?_ ?_ ?_) ?_; (focus (simp [LPXB, *, SIMB, a0n, a0h, a3l, a3h, a2v, a2w, a4t, a2l, a4s, a2r]; done)); (focus (simp [LPXB, *, SIMB, a0n, a0h, a3l, a3h, a2v, a2w, a4t, a2l, a4s, a2r]; done)); (focus (simp [injB, bk, LPXB]; done)); (focus (simp [LPXB, *, SIMB, bk_n, bk_c, inH, a0n, a0h, a3l, a3h, a2v, a2w, a4t, a2l, a4s, a2r]; done)); (focus (simp [LPXB, *, SIMB, bk_n, bk_c, inH, a0n, a0h, a3l, a3h, a2v, a2w, a4t, a2l, a4s, a2r]; done)); (focus (simp [LPXB, *, SIMB, bk_n, bk_c, inH, a0n, a0h, a3l, a3h, a2v, a2w, a4t, a2l, a4s, a2r]; done)); (focus (dsimp only; exact hl2)))
  | with_reducible first | refine stp ?_ | refine stpK ?_; intro K hK | refine stpC ?_; intro T E hT hE | refine stp2 ?_ ?_ <;> intro h | refine a0x rfl ?_ | refine a2n tV (by simp [nls, nl, *, NLXB]) ?_ | refine hpc tV (by simp [nls, nl, *, NLXB]) ?_ | refine a1a rfl (Nat.le_of_ble_eq_true rfl) a0z ?_ | refine a1a rfl (Nat.le_of_ble_eq_true rfl) (a0y (by simp [HPXB, a3l, ext, upd, *])) ?_ | refine a2i (by decide) (by kernel_rfl) ?_ | refine a1j (by decide) ?_ | refine Kont.go hK ?_; clear hK K | refine KT.go hT ?_; clear hT hE T E | refine KT.go hE ?_; clear hT hE T E
  | simp [*, -List.all_flatten, -List.all_eq_true, DEFB, LENB, asR, a1u, Ins.row, a2g, a3l, e6t, a0a, PFin, a0i, a0c, a1l, b5l, a2l, d1x, a4t, a4s, a8g, a2q, FnD.row]
theorem e5f (n : Nat) {P : Program} {res : List ResultVar} {r y : FV} {s : Fs} {l : List FV} (hr : resL P s res = some l) (hy : frz s.H n (a4i l) = some y) (ha : asR y r) : PEnd P res r .ret s := ⟨.inr rfl, s, Wk.refl s, l, hr, n, y, hy, ha⟩
theorem c8k  : PC Tryz.prog Gl 38 [] (.agg [.list 4 [[.str ⟨⟨[109, 97, 105, 110]⟩⟩, .int .i64 0, .int .i64 2, .list 5 [[.int .i64 18, .int .i64 0, .int .i64 0, .int .i64 0, .int .i64 0], [.int .i64 39, .int .i64 0, .int .i64 0, .int .i64 0, .int .i64 0], [.int .i64 18, .int .i64 1, .int .i64 1, .int .i64 0, .int .i64 0], [.int .i64 33, .int .i64 1, .int .i64 1, .int .i64 0, .int .i64 0], [.int .i64 18, .int .i64 0, .int .i64 0, .int .i64 0, .int .i64 0], [.int .i64 40, .int .i64 0, .int .i64 0, .int .i64 0, .int .i64 0], [.int .i64 30, .int .i64 (-1), .int .i64 0, .int .i64 0, .int .i64 0]]]], .list 2 [[.str ⟨⟨[109]⟩⟩, .int .i64 0], [.str ⟨⟨[120]⟩⟩, .int .i64 0]], .list 1 [], .int .i64 0]) := by
 refine a6n (res := [.cell 0 26]) 2 17 [] (fun d ix => 0 :: d :: ix) (fn := Tryz.f38) (by kernel_rfl) (by rfl) (by rfl) (by rfl) (by simp) (by decide) ?_
 repeat' first
  | (refine e5f 80 rfl rfl ?_; exact ⟨_, rfl, _, _, rfl, rfl, _, _, rfl, rfl, _, _, rfl, .inr ⟨1, rfl⟩, _, _, rfl, rfl, rfl⟩)
  | with_reducible first | refine stp ?_ | refine stpK ?_; intro K hK | refine stpC ?_; intro T E hT hE | refine stp2 ?_ ?_ <;> intro h | refine a0x rfl ?_ | refine a1a rfl (Nat.le_of_ble_eq_true rfl) a0z ?_ | refine a1a rfl (Nat.le_of_ble_eq_true rfl) (a0y (by simp [HPXB, ext, upd, *])) ?_ | refine a2i (by decide) (by kernel_rfl) ?_ | refine a1j (by decide) ?_ | refine Kont.go hK ?_; clear hK K | refine KT.go hT ?_; clear hT hE T E | refine KT.go hE ?_; clear hT hE T E
  | simp [*, -List.all_flatten, -List.all_eq_true, DEFB, asR, asRs, frz, frzs, frzR, frzN]
noncomputable def nmK (p : Pg) (k : Nat) : ByteArray := (p.funcs.take k).foldl (fun s f => s ++ f.name) ⟨⟨[117]⟩⟩
theorem d2i (p : Pg) : nmK p 0 = ⟨⟨[117]⟩⟩ := rfl
theorem f4t {p : Pg} {k : Nat} (h : k < p.funcs.length) : nmK p k ++ p.funcs[k].name = nmK p (k + 1) := by
 unfold nmK
 rw [List.take_succ_eq_append_getElem h, List.foldl_append]; rfl
theorem c6a (p : Pg) : ∀ k, k <= p.funcs.length -> (nmK p k).size = 1 + ((p.funcs.take k).map fun f => f.name.size).sum
 | 0, _ => rfl
 | k + 1, h => by
   rw [<- f4t (by omega), ByteArray.size_append, c6a p k (by omega), List.take_succ_eq_append_getElem (by omega : k < p.funcs.length), List.map_append, List.sum_append]
   simp; omega
theorem f4u {p : Pg} {N : Nat} (hN : ∀ f ∈ p.funcs, f.name.size <= N) {k : Nat} (hk : k <= p.funcs.length) : (nmK p k).size <= 1 + k * N := by
 rw [c6a p k hk]
 have key : ∀ l : List FnD, (∀ f ∈ l, f.name.size <= N) -> (l.map fun f => f.name.size).sum <= l.length * N := by
  intro l hl
  induction l with
  | nil => simp
  | cons a l ih =>
    have h1 := ih fun f hf => hl f (by simp [hf])
    have h2 := hl a (by simp)
    simp only [List.map_cons, List.sum_cons, List.length_cons, Nat.succ_mul]
    omega
 have := key (p.funcs.take k) fun f hf => hN f (List.mem_of_mem_take hf)
 rw [List.length_take, Nat.min_eq_left hk] at this
 omega
theorem e5m {p : Pg} {f : FnD} (h : f ∈ p.funcs) : f.name.size < (nmK p p.funcs.length).size := by
 rw [c6a p _ (Nat.le_refl _), List.take_length]
 have key : ∀ l : List FnD, f ∈ l -> f.name.size <= (l.map fun f => f.name.size).sum := by
  intro l hl
  induction l with
  | nil => cases hl
  | cons a l ih =>
    simp only [List.map_cons, List.sum_cons]
    rcases List.mem_cons.1 hl with rfl | h
    . omega
    . have := ih h; omega
 have := key _ h
 omega
theorem d2h (f : FnD) : f.nm.length = f.name.size := by
 show f.name.data.toList.length = f.name.data.size
 simp
theorem g2e {p : Pg} (hv : a3g p = true) (h64 : p.funcs.length < 64) {k : Nat} (hk : k < p.globals.length) : a3g (addU p (nmK p p.funcs.length) (k : Int)) = true := by
 have hs : (nmK p p.funcs.length).size ≠ 0 := by rw [c6a p _ (Nat.le_refl _)]; omega
 refine e0m hv (by omega) (by omega) h64 (fun e => hs ?_) fun f hf e => ?_
 . have := d2h (unl (nmK p p.funcs.length) (k : Int))
   rw [e] at this
   exact this.symm
 . have h1 := e5m hf
   have h2 := d2h (unl (nmK p p.funcs.length) (k : Int))
   rw [<- e, d2h] at h2
   have h3 : (unl (nmK p p.funcs.length) (k : Int)).name.size = (nmK p p.funcs.length).size := rfl
   omega
theorem e9q {p : Pg} {nm : ByteArray} {k : Nat} (hm : 0 < p.funcs.length) (hv : a3g p = true) (hq : a3g (addU p nm (k : Int)) = true) (c : List Ins) : (a8t (addU p nm (k : Int)) (lfpP (addU p nm (k : Int))) c).length = (a8t p (lfpP p) c).length /\
 ∀ i (h : i < (a8t p (lfpP p) c).length) (h' : i < (a8t (addU p nm (k : Int)) (lfpP (addU p nm (k : Int))) c).length), (a8t (addU p nm (k : Int)) (lfpP (addU p nm (k : Int))) c)[i] = (a8t p (lfpP p) c)[i].filter fun v => decide (v ≠ (k : Int)) := by
 refine ⟨by rw [b2r, b2r], fun i h h' => ?_⟩
 rw [b5b h, b5b h']
 exact d5q fun v h64 => e9t hv hm (by omega) (b6c hv) (b6c hq) h64
theorem g2f {p : Pg} (hb : PgB p) (h64 : p.funcs.length < 64) (nm : ByteArray) (k : Int) : PgB (addU p nm k) := ⟨by rw [a7t]; omega, hb.g, hb.l, hb.ll, fun f hf => by
 have hf : f ∈ p.funcs ++ [unl nm k] := hf
 rcases List.mem_append.1 hf with h | h
 . exact hb.c f h
 . obtain rfl := List.mem_singleton.1 h
   simp [unl]⟩
theorem c0i (p : Pg) (nm : ByteArray) (k : Int) : fns (addU p nm k).funcs = fns p.funcs ++ [[.str nm, .int .i64 0, .int .i64 1, .list 5 [[.int .i64 18, .int .i64 0, .int .i64 k, .int .i64 0, .int .i64 0], [.int .i64 40, .int .i64 0, .int .i64 0, .int .i64 0, .int .i64 0], [.int .i64 30, .int .i64 (-1), .int .i64 0, .int .i64 0, .int .i64 0]]]] := by
 show fns (p.funcs ++ [unl nm k]) = _
 rw [a0r]; rfl
theorem f6f {l : List Int} {k : Int} {j : Nat} (h : j < l.length) (e : l[j] ≠ k) : (l.take (j + 1)).filter (fun v => decide (v ≠ k)) = (l.take j).filter (fun v => decide (v ≠ k)) ++ [l[j]] := by
 rw [List.take_succ_eq_append_getElem h, List.filter_append]
 simp [e]
theorem f6g {l : List Int} {k : Int} {j : Nat} (h : j < l.length) (e : l[j] = k) : (l.take (j + 1)).filter (fun v => decide (v ≠ k)) = (l.take j).filter (fun v => decide (v ≠ k)) := by
 rw [List.take_succ_eq_append_getElem h, List.filter_append]
 simp [e]
theorem g8h {p : Pg} (hb : PgB p) (hv : a3g p = true) (h64 : p.funcs.length < 64) {k : Nat} (hk : k < p.globals.length) {nm : ByteArray} (hnm : nmK p p.funcs.length = nm) (f : Nat) (hf : f < p.funcs.length) : ∃ a b : List (List Int), b.length = a.length /\ (∀ i (h : i < a.length) (h' : i < b.length), b[i] = a[i].filter fun v => decide (v ≠ (k : Int))) /\ a.length <= 1000 /\ (∀ i (h : i < a.length), a[i].length <= 64) /\
 PC Tryz.prog Gl 14 [.agg [.list 4 (fns p.funcs), .list 2 (gbs p.globals), .list 1 (lays p.layouts), .int .i64 p.main], .int .i64 f] (.list 1 (lays a)) /\ PC Tryz.prog Gl 14 [.agg [.list 4 (fns (addU p nm k).funcs), .list 2 (gbs p.globals), .list 1 (lays p.layouts), .int .i64 p.main], .int .i64 f] (.list 1 (lays b)) := by
 have hq := g2e hv h64 hk
 rw [hnm] at hq
 obtain ⟨h1, h2⟩ := e9q (by omega) hv hq p.funcs[f].code
 have hf2 : f < (addU p nm k).funcs.length := by rw [a7t]; omega
 have t2 := t_In (g2f hb h64 nm k) hq hf2
 rw [b7f hf hf2] at t2
 obtain ⟨⟨n0, pa, rgs, c⟩, hfd⟩ : ∃ fd, p.funcs[f] = fd := ⟨_, rfl⟩
 have hF := fok hv hf hfd
 refine ⟨_, _, h1, h2, ?_, fun i h => ?_, t_In hb hv hf, t2⟩
 . rw [b2r, hfd]; exact hF.hc.n1000
 . rw [b5b h]; exact c2s _
theorem d0f : PC Tryz.prog Gl 38 [] (.agg [.list 4 (fns p5.funcs), .list 2 (gbs p5.globals), .list 1 (lays p5.layouts), .int .i64 p5.main]) := c8k
theorem pgb5 : PgB p5 := ⟨by decide, by decide, by decide, fun x hx => by simp [p5] at hx, fun x hx => by simp [p5] at hx; subst hx; decide⟩
theorem b9c  : PC Tryz.prog Gl 11 [] (.bool true) := by
 have hI : PC Tryz.prog Gl 14 [.agg [.list 4 (fns p5.funcs), .list 2 (gbs p5.globals), .list 1 (lays p5.layouts), .int .i64 p5.main], .int .i64 0] (.list 1 [[.list 1 []], [.list 1 []], [.list 1 [[.int .i64 0]]], [.list 1 [[.int .i64 0]]], [.list 1 [[.int .i64 0]]], [.list 1 [[.int .i64 0]]], [.list 1 []]]) := by
  have h := t_In pgb5 d6o (f := 0) (by decide)
  rw [show p5.funcs[0].code = c5 from rfl, g9a] at h
  exact h
 have hE : PC Tryz.prog Gl 38 [] (.agg [.list 4 (fns p5.funcs), .list 2 (gbs p5.globals), .list 1 (lays p5.layouts), .int .i64 p5.main]) := d0f
 have w1 : IntKind.wrap .i64 1 = 1 := by decide
 have w2 : IntKind.wrap .i64 2 = 2 := by decide
 have w3 : IntKind.wrap .i64 3 = 3 := by decide
 have w4 : IntKind.wrap .i64 4 = 4 := by decide
 have w5 : IntKind.wrap .i64 5 = 5 := by decide
 have w6 : IntKind.wrap .i64 6 = 6 := by decide
 have w7 : IntKind.wrap .i64 7 = 7 := by decide
 refine a6n (res := [.tmp 0]) 3 25 [] (fun d ix => 0 :: d :: ix) (fn := Tryz.f11) (by kernel_rfl) (by rfl) (by rfl) (by rfl) (by simp) (by decide) ?_
 repeat' first
  | ((with_reducible refine a2c ?_); refine a3f (σ := {i : Nat // i <= 7}) (fun y => [(2, .int .i64 (y.1 : Int))]) [] (fun y => []) [] (fun y => []) (fun y => noH) (fun y => 7 - y.1) ⟨0, by simp⟩ (gk3 (j := 0) [] (Bs.pc _) ?_ ?_ ?_ ?_ ?_ ?_ ?_) ?_; (iterate 7 (focus (first | rfl | (simp [LPXB, *, SIMB, hdN, injB]; done)))); rintro ⟨i, hi⟩; simp only [lpS, LPXB]; (try dsimp only at hi); have h8 : i = 0 \/ i = 1 \/ i = 2 \/ i = 3 \/ i = 4 \/ i = 5 \/ i = 6 \/ i = 7 := (by omega); rcases h8 with rfl | rfl | rfl | rfl | rfl | rfl | rfl | rfl)
  | ((with_reducible refine a1m ?_); refine a2a (⟨1, by omega⟩) (gk3 (j := 0) [] (Bs.pc _) ?_ ?_ ?_ ?_ ?_ ?_ ?_) ?_; (iterate 7 (focus (first | rfl | (simp [LPXB, *, SIMB, hdN, injB]; done)))); (focus (dsimp only; omega)))
  | ((with_reducible refine a1m ?_); refine a2a (⟨2, by omega⟩) (gk3 (j := 0) [] (Bs.pc _) ?_ ?_ ?_ ?_ ?_ ?_ ?_) ?_; (iterate 7 (focus (first | rfl | (simp [LPXB, *, SIMB, hdN, injB]; done)))); (focus (dsimp only; omega)))
  | ((with_reducible refine a1m ?_); refine a2a (⟨3, by omega⟩) (gk3 (j := 0) [] (Bs.pc _) ?_ ?_ ?_ ?_ ?_ ?_ ?_) ?_; (iterate 7 (focus (first | rfl | (simp [LPXB, *, SIMB, hdN, injB]; done)))); (focus (dsimp only; omega)))
  | ((with_reducible refine a1m ?_); refine a2a (⟨4, by omega⟩) (gk3 (j := 0) [] (Bs.pc _) ?_ ?_ ?_ ?_ ?_ ?_ ?_) ?_; (iterate 7 (focus (first | rfl | (simp [LPXB, *, SIMB, hdN, injB]; done)))); (focus (dsimp only; omega)))
  | ((with_reducible refine a1m ?_); refine a2a (⟨5, by omega⟩) (gk3 (j := 0) [] (Bs.pc _) ?_ ?_ ?_ ?_ ?_ ?_ ?_) ?_; (iterate 7 (focus (first | rfl | (simp [LPXB, *, SIMB, hdN, injB]; done)))); (focus (dsimp only; omega)))
  | ((with_reducible refine a1m ?_); refine a2a (⟨6, by omega⟩) (gk3 (j := 0) [] (Bs.pc _) ?_ ?_ ?_ ?_ ?_ ?_ ?_) ?_; (iterate 7 (focus (first | rfl | (simp [LPXB, *, SIMB, hdN, injB]; done)))); (focus (dsimp only; omega)))
  | ((with_reducible refine a1m ?_); refine a2a (⟨7, by omega⟩) (gk3 (j := 0) [] (Bs.pc _) ?_ ?_ ?_ ?_ ?_ ?_ ?_) ?_; (iterate 7 (focus (first | rfl | (simp [LPXB, *, SIMB, hdN, injB]; done)))); (focus (dsimp only; omega)))
  | with_reducible first | refine stp ?_ | refine stpK ?_; intro K hK | refine stpC ?_; intro T E hT hE | refine stp2 ?_ ?_ <;> intro h | refine a0x rfl ?_ | refine a2n hE (by simp [nls, nl, *, NLXB]) ?_ | refine hpc hE (by simp [nls, nl, *, NLXB]) ?_ | refine a2n hI (by simp [nls, nl, *, NLXB]) ?_ | refine hpc hI (by simp [nls, nl, *, NLXB]) ?_ | refine a1a rfl (Nat.le_of_ble_eq_true rfl) a0z ?_ | refine a1a rfl (Nat.le_of_ble_eq_true rfl) (a0y (by simp [HPXB, ext, upd, *])) ?_ | refine a2i (by decide) (by kernel_rfl) ?_ | refine a1j (by decide) ?_ | refine Kont.go hK ?_; clear hK K | refine KT.go hT ?_; clear hT hE T E | refine KT.go hE ?_; clear hT hE T E
  | simp [*, -List.all_flatten, -List.all_eq_true, DEFB, asR]
theorem g1w (p : Pg) : BsW (updL [([8, 2], .cells 26 4 [[.list 4 (fns p.funcs), .list 2 (gbs p.globals), .list 1 (lays p.layouts), .int .i64 p.main]])] noH) := by
 refine ⟨⟨fun q r hq => ?_, fun l o hl => ?_⟩, rfl, rfl, fun l o hl => ?_⟩
 . simp only [a1w, a2d]
   rw [if_neg (by intro e; injection e; omega)]; rfl
 . simp only [a1w, a2d] at hl
   split at hl
   . obtain rfl := Option.some.inj hl
     exact ⟨⟨a0d _, a0g _, a0a _, trivial, trivial⟩, trivial⟩
   . cases hl
 . simp only [a1w, a2d] at hl
   split at hl
   . obtain rfl := Option.some.inj hl
     intro e; cases e
   . cases hl
theorem g7n {p : Pg} (hb : PgB p) {v : Nat} (hv256 : v < 256) (hnm : ∀ f ∈ p.funcs, f.name.size <= 1048576) (g1 : b8l p = false) (g3 : a3g p = true) (g4 : ¬ p.globals.length = 0) (g5 : ¬ 64 <= p.funcs.length) : PC Tryz.prog Gl 5 [.agg [.list 4 (fns p.funcs), .list 2 (gbs p.globals), .list 1 (lays p.layouts), .int .i64 p.main], .int .u8 (v : Int)] (.bool true) := by
 have hg := d0e p hb.f hb.c
 have hV : PC Tryz.prog Gl 17 [.agg [.list 4 (fns p.funcs), .list 2 (gbs p.globals), .list 1 (lays p.layouts), .int .i64 p.main]] (.bool (a3g p)) := c21 p hb.f hb.g hb.l hb.ll hb.c
 rw [g1] at hg
 rw [g3] at hV
 have hwv : IntKind.wrap .i64 (v : Int) = (v : Int) := by rw [IntKind.wrap_i64]; omega
 have g6 : ¬ (64 : Int) <= (p.funcs.length : Int) := by omega
 have g7 : ¬ p.globals = [] := fun e => g4 (by rw [e]; rfl)
 obtain ⟨kk, hkk⟩ : ∃ kk, v % p.globals.length = kk := ⟨_, rfl⟩
 have hkl : kk < p.globals.length := by rw [<- hkk]; exact Nat.mod_lt _ (by omega)
 have hkt : Int.tmod (v : Int) (p.globals.length : Int) = (kk : Int) := by rw [<- Int.ofNat_tmod, hkk]
 clear hkk
 have hsz : ∀ i (h : i < p.funcs.length), ((nmK p i).size : Int) + (p.funcs[i].name.size : Int) <= 9223372036854775807 := fun i h => by
  have h1 := f4u hnm (k := i) (by omega)
  have h2 := hnm _ (List.getElem_mem h)
  have h3 : i * 1048576 <= 64 * 1048576 := Nat.mul_le_mul_right _ (by omega)
  omega
 have hsy : ∀ i (h : i < p.funcs.length), (nmK p i).size + p.funcs[i].name.size <= 9223372036854775807 := fun i h => by
  have := hsz i h
  omega
 have hz9 := szn (n := p.funcs.length + 1) (k := 56) (by omega) (by decide)
 have hz8 : p.funcs.length <= 4611686018427387903 := by omega
 have hpair := g8h hb g3 (by omega) hkl rfl
 obtain ⟨nm, hnmk⟩ : ∃ nm, nmK p p.funcs.length = nm := ⟨_, rfl⟩
 rw [hnmk] at hpair
 refine a6n (res := [.tmp 4]) 15 130 [] (fun d ix => 8 :: d :: ix) (fn := Tryz.f5) (by kernel_rfl) (by rfl) (by rfl) (by rfl) (by simp) (by decide) ?_
 repeat' first
  | ((with_reducible refine cgB ?_); refine c7n rfl (e4k hb (g1w _)) ?_)
  | ((with_reducible refine cgB ?_); refine b7c 8 (A1 := [.list 1 (ints dn), .list 1 (ints dn)]) tI ?_ ?_ (by simp [sca]) ?_; (focus (simp [frzs, frz, frzR, HPXB, nl, nls, a0c, a4u, a0e, List.take_of_length_le]; done)); (focus (simp [asRs, asR]; done)))
  | ((with_reducible refine a2c ?_); refine a3f (σ := {i : Nat // i <= p.funcs.length}) (fun y => [(7, .str (nmK p y.1)), (8, .int .i64 (y.1 : Int))]) [] (fun y => []) [] (fun y => []) (fun y => noH) (fun y => p.funcs.length - y.1) ⟨0, by simp⟩ (gk5S [] rfl c5pc l5pc ?_ ?_ ?_ ?_ ?_ ?_) ?_; (focus (simp [LPXB, *, SIMB, a0n, a0h, a1u, d2i]; done)); (focus (simp [LPXB, *, SIMB, a0n, a0h, a1u, d2i]; done)); (focus (simp [injB, bk, LPXB]; done)); (focus (simp [LPXB, *, SIMB, bk_n, bk_c, inH, a0n, a0h, a1u, d2i]; done)); (focus (simp [LPXB, *, SIMB, bk_n, bk_c, inH, a0n, a0h, a1u, d2i]; done)); (focus (simp [LPXB, *, SIMB, bk_n, bk_c, inH, a0n, a0h, a1u, d2i]; done)); rintro ⟨i, hi⟩; simp only [lpS, LPXB]; (try dsimp only at hi); rcases a1y hi with hlt | ⟨hlt, e⟩; rotate_left; subst e; rotate_left; have wi := wli hlt (by omega); have hns := f4t hlt; have hz1 := hsz i hlt; have hz2 := hsy i hlt)
  | ((with_reducible refine a2c ?_); refine a3f (σ := {f : Nat // f <= p.funcs.length}) (fun y => [(9, .int .i64 (y.1 : Int)), (10, .undef), (11, .undef), (12, .undef), (13, .undef), (14, .undef)]) [] (fun y => []) [[8, 66], [8, 68], [8, 69], [71], [72]] (fun y => [([8, 5], .cells 26 4 [[.list 4 (fns (addU p nm kk).funcs), .list 2 (gbs p.globals), .list 1 (lays p.layouts), .int .i64 p.main]])]) (fun y => noH) (fun y => p.funcs.length - y.1) ⟨0, by simp⟩ (Gk.trans (gk5S [] rfl c5pc l5pc ?_ ?_ ?_ ?_ ?_ ?_) (Gk.trans (b6m [72] 36 1 (lays p.layouts) c5pc (fun _ h => h.elim) (by simp [*, SIMB, a0n, a0h, a1u, fz, fzs, fzss, fzO, fzT, fze, a1s, a2y, a3k, a3d, a2o]) (by simp [*, SIMB, a1u, fz, fzs, fzss, fzO, fzT, fze, a1s, a2y, a3k, a3d, a2o, b0f]) (by simp [*, SIMB, fz, fzs, fzss, fzO, fzT, fze, a1s, a2y, a3k, a3d, a2o])) (Gk.trans (b6m [8, 69] 35 4 (fns p.funcs ++ [[.str nm, .int .i64 0, .int .i64 1, .list 5 [[.int .i64 18, .int .i64 0, .int .i64 (kk : Int), .int .i64 0, .int .i64 0], [.int .i64 40, .int .i64 0, .int .i64 0, .int .i64 0, .int .i64 0], [.int .i64 30, .int .i64 (-1), .int .i64 0, .int .i64 0, .int .i64 0]]]]) c5pc (fun _ h => h.elim) (by simp [*, SIMB, a0n, a0h, a1u, fz, fzs, fzss, fzO, fzT, fze, a1s, a2y, a3k, a3d, a2o]) (by simp [*, SIMB, a1u, fz, fzs, fzss, fzO, fzT, fze, a1s, a2y, a3k, a3d, a2o, b0f]) (by simp [*, SIMB, fz, fzs, fzss, fzO, fzT, fze, a1s, a2y, a3k, a3d, a2o])) (b6m [8, 66] 42 5 ([[.int .i64 18, .int .i64 0, .int .i64 (kk : Int), .int .i64 0, .int .i64 0], [.int .i64 40, .int .i64 0, .int .i64 0, .int .i64 0, .int .i64 0], [.int .i64 30, .int .i64 (-1), .int .i64 0, .int .i64 0, .int .i64 0]]) c5pc (fun _ h => h.elim) (by simp [*, SIMB, a0n, a0h, a1u, fz, fzs, fzss, fzO, fzT, fze, a1s, a2y, a3k, a3d, a2o]) (by simp [*, SIMB, a1u, fz, fzs, fzss, fzO, fzT, fze, a1s, a2y, a3k, a3d, a2o, b0f]) (by simp [*, SIMB, fz, fzs, fzss, fzO, fzT, fze, a1s, a2y, a3k, a3d, a2o]))))) ?_; (focus (simp [LPXB, *, SIMB, a0n, a0h, a1u, fz, fzs, fzss, fzO, fzT, fze, a1s, a2y, a3k, a3d, a2o]; done)); (focus (simp [LPXB, *, SIMB, a0n, a0h, a1u, fz, fzs, fzss, fzO, fzT, fze, a1s, a2y, a3k, a3d, a2o]; done)); (focus (simp [injB, bk, LPXB]; done)); (focus (simp [LPXB, *, SIMB, bk_n, bk_c, inH, a0n, a0h, a1u, fz, fzs, fzss, fzO, fzT, fze, a1s, a2y, a3k, a3d, a2o, c0i]; done)); (focus (simp [LPXB, *, SIMB, bk_n, bk_c, inH, a0n, a0h, a1u, fz, fzs, fzss, fzO, fzT, fze, a1s, a2y, a3k, a3d, a2o, c0i]; done)); (focus (simp [LPXB, *, SIMB, bk_n, bk_c, inH, a0n, a0h, a1u, fz, fzs, fzss, fzO, fzT, fze, a1s, a2y, a3k, a3d, a2o, c0i]; done)); rintro ⟨f, hf⟩; simp only [lpS, LPXB]; (try dsimp only at hf); rcases a1y hf with hlt | ⟨hlt, e⟩; rotate_left; subst e; rotate_left; have wi := wli hlt (by omega); obtain ⟨a, b, hab, hrel, ha1, ha2, tA, tB⟩ := hpair f hlt; clear hz9 hz8 hpair hsz hsy)
  | ((with_reducible refine a2c ?_); refine a3f (σ := {i : Nat // i <= a.length}) (fun y => [(12, .int .i64 (y.1 : Int)), (13, .undef), (14, .undef)]) [] (fun y => []) [] (fun y => []) (fun y => noH) (fun y => a.length - y.1) ⟨0, by simp⟩ (gk5S [] rfl c5pc l5pc ?_ ?_ ?_ ?_ ?_ ?_) ?_; (focus (simp [LPXB, *, SIMB, a0n, a0h, a1u]; done)); (focus (simp [LPXB, *, SIMB, a0n, a0h, a1u]; done)); (focus (simp [injB, bk, LPXB]; done)); (focus (simp [LPXB, *, SIMB, bk_n, bk_c, inH, a0n, a0h, a1u]; done)); (focus (simp [LPXB, *, SIMB, bk_n, bk_c, inH, a0n, a0h, a1u]; done)); (focus (simp [LPXB, *, SIMB, bk_n, bk_c, inH, a0n, a0h, a1u]; done)); rintro ⟨i, hi⟩; simp only [lpS, LPXB]; (try dsimp only at hi); rcases a1y hi with hli | ⟨hli, e⟩; rotate_left; subst e; rotate_left; have wi2 := wli hli (by omega); have hbi : i < b.length := (by omega); have hri := hrel i hli hbi; have hal := ha2 i hli; obtain ⟨row, hrow⟩ : ∃ r, a[i] = r := ⟨_, rfl⟩; rw [hrow] at hri hal; clear hrel)
  | ((with_reducible refine a2c ?_); refine a3f (σ := {y : Nat × List Int // y.1 <= row.length /\ (row.take y.1).filter (fun v => decide (v ≠ (kk : Int))) = y.2}) (fun y => [(13, .sl [8, 98] 1 0 y.1.2.length), (14, .int .i64 (y.1.1 : Int))]) [] (fun y => []) [] (fun y => [([8, 98], .cells 3 1 (ints y.1.2))]) (fun y => noH) (fun y => row.length - y.1.1) ⟨(0, []), by simp, by simp⟩ (gk5S [([8, 98], none)] rfl c5pc l5pc ?_ ?_ ?_ ?_ ?_ ?_) ?_; (focus (simp [LPXB, *, SIMB, a0n, a0h, a1u, a0u]; done)); (focus (simp [LPXB, *, SIMB, a0n, a0h, a1u, a0u]; done)); (focus (simp [injB, bk, LPXB]; done)); (focus (simp [LPXB, *, SIMB, bk_n, bk_c, inH, a0n, a0h, a1u, a0u]; done)); (focus (simp [LPXB, *, SIMB, bk_n, bk_c, inH, a0n, a0h, a1u, a0u]; done)); (focus (simp [LPXB, *, SIMB, bk_n, bk_c, inH, a0n, a0h, a1u, a0u]; done)); rintro ⟨⟨j, dn⟩, hj, hd⟩; simp only [lpS, LPXB]; (try dsimp only at hj hd); have hdl : dn.length <= 64 := (by rw [<- hd]; exact Nat.le_trans (List.length_filter_le _ _) (Nat.le_trans (List.length_take_le _ _) (Nat.le_trans hj hal))); rcases a1y hj with hlj | ⟨hlj, e⟩; rotate_left; subst e; rw [List.take_length] at hd; rw [hd] at hri; have tI := f3m dn dn (Nat.le_trans hdl (by decide)); rotate_left; have wj := wli hlj (by omega); obtain ⟨s1, s2⟩ := s8 hdl; by_cases hne : row[j] = (kk : Int); have hfk := f6g hlj hne; rw [hd] at hfk; rotate_left; have hfk := f6f hlj hne; rw [hd] at hfk; rotate_left)
  | ((with_reducible refine a1m ?_); refine a2a (⟨i + 1, by omega⟩) (gk5S [] rfl c5pc l5pc ?_ ?_ ?_ ?_ ?_ ?_) ?_; (focus (simp [LPXB, *, SIMB, a0n, a0h, a1u, hns]; done)); (focus (simp [LPXB, *, SIMB, a0n, a0h, a1u, hns]; done)); (focus (simp [injB, bk, LPXB]; done)); (focus (simp [LPXB, *, SIMB, bk_n, bk_c, inH, a0n, a0h, a1u, hns]; done)); (focus (simp [LPXB, *, SIMB, bk_n, bk_c, inH, a0n, a0h, a1u, hns]; done)); (focus (simp [LPXB, *, SIMB, bk_n, bk_c, inH, a0n, a0h, a1u, hns]; done)); (focus (dsimp only; omega)))
  | ((with_reducible refine a1m ?_); refine a2a (⟨f + 1, by omega⟩) (gk5S [] rfl c5pc l5pc ?_ ?_ ?_ ?_ ?_ ?_) ?_; (focus (simp [LPXB, *, SIMB, a0n, a0h, a1u]; done)); (focus (simp [LPXB, *, SIMB, a0n, a0h, a1u]; done)); (focus (simp [injB, bk, LPXB]; done)); (focus (simp [LPXB, *, SIMB, bk_n, bk_c, inH, a0n, a0h, a1u]; done)); (focus (simp [LPXB, *, SIMB, bk_n, bk_c, inH, a0n, a0h, a1u]; done)); (focus (simp [LPXB, *, SIMB, bk_n, bk_c, inH, a0n, a0h, a1u]; done)); (focus (dsimp only; omega)))
  | ((with_reducible refine a1m ?_); refine a2a (⟨i + 1, by omega⟩) (gk5S [] rfl c5pc l5pc ?_ ?_ ?_ ?_ ?_ ?_) ?_; (focus (simp [LPXB, *, SIMB, a0n, a0h, a1u]; done)); (focus (simp [LPXB, *, SIMB, a0n, a0h, a1u]; done)); (focus (simp [injB, bk, LPXB]; done)); (focus (simp [LPXB, *, SIMB, bk_n, bk_c, inH, a0n, a0h, a1u]; done)); (focus (simp [LPXB, *, SIMB, bk_n, bk_c, inH, a0n, a0h, a1u]; done)); (focus (simp [LPXB, *, SIMB, bk_n, bk_c, inH, a0n, a0h, a1u]; done)); (focus (dsimp only; omega)))
  | ((with_reducible refine a1m ?_); refine a2a (⟨(j + 1, dn ++ [row[j]]), by omega, hfk⟩) (gk5S [([8, 98], some [8, 122])] rfl c5pc l5pc ?_ ?_ ?_ ?_ ?_ ?_) ?_; (focus (simp [LPXB, *, SIMB, a0n, a0h, a1u, a2r]; done)); (focus (simp [LPXB, *, SIMB, a0n, a0h, a1u, a2r]; done)); (focus (simp [injB, bk, LPXB]; done)); (focus (simp [LPXB, *, SIMB, bk_n, bk_c, inH, a0n, a0h, a1u, a2r]; done)); (focus (simp [LPXB, *, SIMB, bk_n, bk_c, inH, a0n, a0h, a1u, a2r]; done)); (focus (simp [LPXB, *, SIMB, bk_n, bk_c, inH, a0n, a0h, a1u, a2r]; done)); (focus (dsimp only; omega)))
  | ((with_reducible refine a1m ?_); refine a2a (⟨(j + 1, dn), by omega, hfk⟩) (gk5S [] rfl c5pc l5pc ?_ ?_ ?_ ?_ ?_ ?_) ?_; (focus (simp [LPXB, *, SIMB, a0n, a0h, a1u]; done)); (focus (simp [LPXB, *, SIMB, a0n, a0h, a1u]; done)); (focus (simp [injB, bk, LPXB]; done)); (focus (simp [LPXB, *, SIMB, bk_n, bk_c, inH, a0n, a0h, a1u]; done)); (focus (simp [LPXB, *, SIMB, bk_n, bk_c, inH, a0n, a0h, a1u]; done)); (focus (simp [LPXB, *, SIMB, bk_n, bk_c, inH, a0n, a0h, a1u]; done)); (focus (dsimp only; omega)))
  | with_reducible first | refine a3m (id := 16) 6 a1v (by kernel_rfl) fun K hK => ?_ | refine stp ?_ | refine stpK ?_; intro K hK | refine stpC ?_; intro T E hT hE | refine stp2 ?_ ?_ <;> intro h | refine a0x rfl ?_ | refine a2n b9c (by simp [nls, nl, *, NLXB]) ?_ | refine hpc b9c (by simp [nls, nl, *, NLXB]) ?_ | refine a2n hg (by simp [nls, nl, *, NLXB]) ?_ | refine hpc hg (by simp [nls, nl, *, NLXB]) ?_ | refine a2n hV (by simp [nls, nl, *, NLXB]) ?_ | refine hpc hV (by simp [nls, nl, *, NLXB]) ?_ | refine a2n tA (by simp [nls, nl, *, NLXB]) ?_ | refine hpc tA (by simp [nls, nl, *, NLXB]) ?_ | refine a2n tB (by simp [nls, nl, *, NLXB]) ?_ | refine hpc tB (by simp [nls, nl, *, NLXB]) ?_ | refine a1a rfl (Nat.le_of_ble_eq_true rfl) a0z ?_ | refine a1a rfl (Nat.le_of_ble_eq_true rfl) (a0y (by simp [HPXB, a1u, ext, upd, *])) ?_ | refine a2i (by decide) (by kernel_rfl) ?_ | refine a1j (by decide) ?_ | refine Kont.go hK ?_; clear hK K | refine KT.go hT ?_; clear hT hE T E | refine KT.go hE ?_; clear hT hE T E
  | simp [*, -List.all_flatten, -List.all_eq_true, DEFB, LENB, asR, a1u, FnD.row, b2w, a4u, List.take_length, a4h, a2r, a6g, Ins.row, FV.cellV]
theorem g7m {p : Pg} (hb : PgB p) {v : Nat} (hv256 : v < 256) (h0 : ¬ (b8l p = false /\ a3g p = true /\ ¬ p.globals.length = 0 /\ ¬ 64 <= p.funcs.length)) : PC Tryz.prog Gl 5 [.agg [.list 4 (fns p.funcs), .list 2 (gbs p.globals), .list 1 (lays p.layouts), .int .i64 p.main], .int .u8 (v : Int)] (.bool true) := by
 have hg := d0e p hb.f hb.c
 have hV : PC Tryz.prog Gl 17 [.agg [.list 4 (fns p.funcs), .list 2 (gbs p.globals), .list 1 (lays p.layouts), .int .i64 p.main]] (.bool (a3g p)) := c21 p hb.f hb.g hb.l hb.ll hb.c
 have hwv : IntKind.wrap .i64 (v : Int) = (v : Int) := by rw [IntKind.wrap_i64]; omega
 cases g1 : b8l p
 all_goals rw [g1] at hg
 all_goals cases g3 : a3g p
 all_goals rw [g3] at hV
 all_goals by_cases g4 : p.globals.length = 0
 all_goals by_cases g5 : (64 : Int) <= (p.funcs.length : Int)
 all_goals first | (exfalso; exact h0 ⟨g1, g3, g4, fun h => g5 (by omega)⟩) | skip
 all_goals clear h0
 all_goals
  refine a6n (res := [.tmp 4]) 15 130 [] (fun d ix => 8 :: d :: ix) (fn := Tryz.f5) (by kernel_rfl) (by rfl) (by rfl) (by rfl) (by simp) (by decide) ?_
  repeat' first
   | with_reducible first | refine a3m (id := 16) 6 a1v (by kernel_rfl) fun K hK => ?_ | refine stp ?_ | refine stpK ?_; intro K hK | refine stpC ?_; intro T E hT hE | refine stp2 ?_ ?_ <;> intro h | refine a0x rfl ?_ | refine a2n b9c (by simp [nls, nl, *, NLXB]) ?_ | refine hpc b9c (by simp [nls, nl, *, NLXB]) ?_ | refine a2n hg (by simp [nls, nl, *, NLXB]) ?_ | refine hpc hg (by simp [nls, nl, *, NLXB]) ?_ | refine a2n hV (by simp [nls, nl, *, NLXB]) ?_ | refine hpc hV (by simp [nls, nl, *, NLXB]) ?_ | refine a1a rfl (Nat.le_of_ble_eq_true rfl) a0z ?_ | refine a1a rfl (Nat.le_of_ble_eq_true rfl) (a0y (by simp [HPXB, a1u, ext, upd, *])) ?_ | refine a2i (by decide) (by kernel_rfl) ?_ | refine a1j (by decide) ?_ | refine Kont.go hK ?_; clear hK K | refine KT.go hT ?_; clear hT hE T E | refine KT.go hE ?_; clear hT hE T E
   | simp [*, -List.all_flatten, -List.all_eq_true, DEFB, LENB, asR, a1u, FnD.row, b2w, a4u, List.take_length, a4h, a2r, a6g, Ins.row, FV.cellV]
end Go.Je
namespace Go.Je
open Go Go.FM Go.Gv Go.Proofs
theorem b4g {p : Pg} (hb : PgB p) (hnm : ∀ f ∈ p.funcs, f.name.size <= 1048576) {v : Int} (h0 : 0 <= v) (h1 : v <= 255) : PC Tryz.prog Gl 5 [.agg [.list 4 (fns p.funcs), .list 2 (gbs p.globals), .list 1 (lays p.layouts), .int .i64 p.main], .int .u8 v] (.bool true) := by
 obtain ⟨n, rfl⟩ : ∃ n : Nat, v = (n : Int) := ⟨v.toNat, by omega⟩
 by_cases h : b8l p = false /\ a3g p = true /\ ¬ p.globals.length = 0 /\ ¬ 64 <= p.funcs.length
 . exact g7n hb (by omega) hnm h.1 h.2.1 h.2.2.1 h.2.2.2
 . exact g7m hb (by omega) h
end Go.Je
