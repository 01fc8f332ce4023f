/- Part. -/
import Derived.Test.YtfhhgjbcenhdeaaGreatDoorS34
import Derived.Test.YtfhhgjbcenhdeaaGreatDoorS35
set_option linter.all false
set_option maxRecDepth 100000
set_option maxHeartbeats 0
namespace Go.Je
open Go Go.FM Go.Gv Go.Proofs
variable {B : Heap} {HL : List (List Int)} {L : LF} {M N f i k n v : Nat} {c : List Ins} {fn pa rg : Int} {l : FM.Loc} {nm : ByteArray} {p : Pg} {β : FM.Loc -> Option FM.Loc} {g : List (BitVec N)} {x : BitVec N}
theorem e9s : ptrs 0 = [] := rfl
theorem d2q (h : ∀ f, β [95, f] = some [95, f]) (n : Nat) : renss β (ptrs n) = ptrs n := by
 have key : ∀ l : List Nat, renss β (l.map fun f => [FV.ptr [95, f] 11 0 0]) = l.map fun f => [FV.ptr [95, f] 11 0 0] := by
  intro l
  induction l with
  | nil => rfl
  | cons a l ih =>
    show rens β [FV.ptr [95, a] 11 0 0] :: renss β _ = _
    rw [ih]
    simp [rens, ren, h]
 exact key _
theorem d1t (hk : f < k) (hf : f < p.fu.length) (e : p.fu[f] = ⟨nm, pa, rg, c⟩) : HP L B (famA p k) [95, f] = some (.cells 72 11 [[.list 4 (fns p.fu), .list 2 (gbs p.gl), .list 1 (lays p.la), .int .i64 p.main, .int .i64 f, .str nm, .int .i64 pa, .int .i64 rg, .list 5 (inss c), .sl [96, f] 1 0 c.length, .sl [97, f] 1 0 c.length]]) /\ HP L B (famA p k) [96, f] = some (.cells 3 1 (ints (usL c))) /\ HP L B (famA p k) [97, f] = some (.cells 68 1 (u64s (hdG 64 c))) := by
 obtain ⟨h1, h2, h3⟩ := c6k (k := k) hk hf e
 exact ⟨a5q h1, a5q h2, a5q h3⟩
theorem e2p (hk : f < k) (hl : k <= p.fu.length) : HP L B (famA p k) [95, f] ≠ none := by
 obtain ⟨⟨nm, pa, rg, c⟩, e⟩ := ex_ (p.fu[f]'ya)
 rw [(d1t hk ya e).1]; simp
theorem d3a (h : ∀ f, β [95, f] = some [95, f]) (hn : n <= k) (hl : k <= p.fu.length) : a3z β (inH (HP L B (famA p k))) (ptrs n) := by
 have key : ∀ l : List Nat, (∀ f ∈ l, f < k) -> a3z β (inH (HP L B (famA p k))) (l.map fun f => [FV.ptr [95, f] 11 0 0]) := by
  intro l hl2
  induction l with
  | nil => trivial
  | cons a l ih => exact ⟨⟨⟨e2p (hl2 a yd) hl, by rw [h]; rfl⟩, trivial⟩, ih fun f hf => hl2 f (by simp [hf])⟩
 exact key _ fun f hf => by have := A2k.1 hf; omega
theorem d2v (hn : n <= k) (hl : k <= p.fu.length) : a1h (inH (HP L B (famA p k))) (ptrs n) := by
 have key : ∀ l : List Nat, (∀ f ∈ l, f < k) -> a1h (inH (HP L B (famA p k))) (l.map fun f => [FV.ptr [95, f] 11 0 0]) := by
  intro l hl2
  induction l with
  | nil => trivial
  | cons a l ih => exact ⟨⟨e2p (hl2 a yd) hl, trivial⟩, ih fun f hf => hl2 f (by simp [hf])⟩
 exact key _ fun f hf => by have := A2k.1 hf; omega
theorem g3y (ho : ninL (inH (HP L noH (famA p k))) L) : Clo (ext (updL L noH) (famA p k)) := fun l o hl => by
 cases e : famA p k l with
 | some ob =>
   have h2 : ext (updL L noH) (famA p k) l = some ob := a6h e
   rw [h2] at hl
   obtain rfl := A5o hl
   refine a1t (fun q hq hn => hq (a0s.1 hn).1) (d0r p k l ob e)
 | none =>
   have h2 : ext (updL L noH) (famA p k) l = updL L noH l := b7u e
   rw [h2] at hl
   rcases a4k hl with h | ⟨_, h⟩
   . exact a8e ho _ h
   . cases h
theorem e4z (hn : hdN 6 (L.map Prod.fst) = true) {q : Nat} {r : List Nat} (h : q ≠ 6) : updL L noH (q :: r) = none := by
 rw [a3i fun p hp e => ?_]
 . rfl
 . obtain ⟨r', hr⟩ := a4z hn p.1 (A1t.2 ⟨p, hp, rfl⟩)
   rw [e] at hr
   simp only [A1q] at hr
   exact h hr.1
theorem f1b (hn : hdN 6 (L.map Prod.fst) = true) (ho : ninL (inH (HP L noH (famA p k))) L) : BsL k (ext (updL L noH) (famA p k)) := by
 obtain ⟨n5, n6, n7⟩ := e6z (p := p) (k := k)
 exact ⟨fun q r hq => a0s.2 ⟨a8l p k ya, e4z hn ya⟩, a0s.2 ⟨n5, e4z hn ya⟩, a0s.2 ⟨n6, e4z hn ya⟩, a0s.2 ⟨n7, e4z hn ya⟩, g3y ho⟩
theorem g4h (e : k = p.fu.length) (hn : hdN 6 (L.map Prod.fst) = true) (ho : ninL (inH (HP L noH (famA p k))) L) (hl : updL L noH [6, 98] = some (.cells 65 1 (ptrs k))) : BsD p (ext (updL L noH) (famA p k)) := by
 subst e
 refine ⟨(f1b hn ho).toH, (b7u (a8l p _ ya)).trans hl, fun f nm pa rg c hF => ?_⟩
 obtain ⟨h1, h2, h3⟩ := c6k hF.hf hF.hf hF.e
 exact ⟨a6h h1, a6h h2, a6h h3⟩
theorem cloN (p : Pg) (k : Nat) : Clo (ext noH (famA p k)) := (bsF p k).clo
theorem f3x {s : BitVec 64} (h : s ≠ 0) : IntKind.wrap .u64 ((s.toNat : Int) - 1) = ((s - 1).toNat : Int) := by
 have h0 : s.toNat ≠ 0 := fun e => h (A3a z1p)
 have hl := s.isLt
 have e1 : (s - 1).toNat = s.toNat - 1 := by
  rw [BitVec.toNat_sub]
  have : (1 : BitVec 64).toNat = 1 := rfl
  rw [this]; omega
 rw [IntKind.wrap_u64, e1]; omega
theorem c1g {x : Pts} (h : i < (a5n p x c).length) : (a5n p x c)[i] = a4s ((hdG 64 c)[i]'(by simpa [a5n] using h) &&& a7i p x) := by simp [a5n]
theorem b2n (p : Pg) (x : Pts) (c : List Ins) : (a5n p x c).length = c.length := by simp [a5n, a7f]
theorem s8 (h : n <= 64) : (n + 1 + (n + 1) / 4 + 192) * 8 <= 140737488355328 /\ n <= 4611686018427387903 := by omega
theorem d9p (k r : Nat) (sz : Nat) (xs : List (List FV)) (n : Nat) (h : k ≠ 95) : fzss [k, r] sz xs (ptrs n) = ptrs n := by
 have key : ∀ l : List Nat, fzss [k, r] sz xs (l.map fun f => [FV.ptr [95, f] 11 0 0]) = l.map fun f => [FV.ptr [95, f] 11 0 0] := by
  intro l
  induction l with
  | nil => rfl
  | cons a l ih =>
    show fzs [k, r] sz xs [FV.ptr [95, a] 11 0 0] :: fzss [k, r] sz xs _ = _
    rw [ih]
    simp [fzs, fz, A4f h]
 exact key _
theorem c6j {H : Heap} {xs : List (List FV)} (h : nlss xs = true) (k : Nat) : frzR H (k + 1) xs = some xs := by unfold frzR; rw [if_pos h]
theorem f5h {l : List (List Int)} (h : i < l.length) : lays (l.take i) ++ [[.list 1 (ints l[i])]] = lays (l.take (i + 1)) := by
 rw [A0n h, a1q]; rfl
theorem t_In (hb : PgB p) (hv : a0m p = true) (hf : f < p.fu.length) : Pq 14 [PA p, .int .i64 f] (.list 1 (lays (a5n p (lfpP p) (p.fu[f]).code))) := by
 have hp := vOk hv
 have hnf := hp.nf
 have tV : Pq 39 [PA p] (.bool (a0m p)) := by rw [<- b4z]; exact c19 p hb.f hb.g hb.l hb.ll hb.c
 rw [hv] at tV
 obtain ⟨⟨nm, pa, rg, c⟩, hfd⟩ := ex_ (p.fu[f])
 have hF := fok hv hf hfd
 rw [hfd]
 show Pq 14 [PA p, .int .i64 f] (.list 1 (lays (a5n p (lfpP p) c)))
 have h1000 := hF.hc.n1000
 have hfi : (f : Int) < (p.fu.length : Int) := by omega
 have hf0 : ¬ (f : Int) < 0 := by omega
 have hf1 : ¬ (p.fu.length : Int) <= (f : Int) := by omega
 obtain ⟨s95, s96, s97⟩ : (∀ L, HP L noH (famA p p.fu.length) [95, f] = some (.cells 72 11 [[.list 4 (fns p.fu), .list 2 (gbs p.gl), .list 1 (lays p.la), .int .i64 p.main, .int .i64 f, .str nm, .int .i64 pa, .int .i64 rg, .list 5 (inss c), .sl [96, f] 1 0 c.length, .sl [97, f] 1 0 c.length]])) /\ (∀ L, HP L noH (famA p p.fu.length) [96, f] = some (.cells 3 1 (ints (usL c)))) /\ ∀ L, HP L noH (famA p p.fu.length) [97, f] = some (.cells 68 1 (u64s (hdG 64 c))) := ⟨fun L => (d1t hf hf hfd).1, fun L => (d1t hf hf hfd).2.1, fun L => (d1t hf hf hfd).2.2⟩
 have hgl := a7f (N := 64) c
 have tD := fun {B : Heap} (hB : BsD p B) => f9n hb hv hB
 have hHl := b2n p (lfpP p) c
 have hHL : ∀ i (h : i < (a5n p (lfpP p) c).length) (h2 : i < (hdG 64 c).length), (a5n p (lfpP p) c)[i] = a4s ((hdG 64 c)[i] &&& a7i p (lfpP p)) := fun i h _ => c1g h
 obtain ⟨HL, hHe⟩ := ex_ (a5n p (lfpP p) c)
 rw [hHe] at hHl hHL ⊢
 generalize a7i p (lfpP p) = M at tD hHL
 clear hHe
 refine yq Tryz.f14 [.tmp 4] 12 74 [29, 28, 50, 49, 48] 6 ?_
 repeat' first
  | (refine wg ?_; refine e7x rfl hlt hfd (d4q hF (g3e hv hF) (f1b yn z4h)) ?_)
  | (refine wg ?_; refine d1e rfl (tD (g4h rfl yn z4h y95)) ?_)
  | (refine wg ?_; refine ⟨rfl, _, _, htf _, ?_⟩)
  | (refine yi ?_; refine a0e (σ := {k : Nat // k <= p.fu.length}) (fun y => [(5, .sl [6, 98] 1 0 y.1), (6, .undef)]) [28] (fun y => [(29, .int .i64 (y.1 : Int))]) [] (fun y => [([6, 98], .cells 65 1 (ptrs y.1))]) (fun y => famA p y.1) (fun y => p.fu.length - y.1) ⟨0, by simp⟩ (gk5S [([6, 98], none)] (g3g p) c5pc (fun _ h => h.elim) y0 y0 yy y0 y0 y0) ?_; rintro ⟨k, hk⟩; simp only [lpS, LPXB]; (try dsimp only at hk); rcases cl2 hk ya with ⟨hlt, wk⟩ | ⟨hlt, rfl⟩; have hkl : (k : Int) < (p.fu.length : Int) := ya; have hk1 : k + 1 <= p.fu.length := hlt; obtain ⟨⟨nm, pa, rgs, c⟩, hfd⟩ := ex_ (p.fu[k]); have hF := fok hv hlt hfd; have s1 : (k + 1 + (k + 1) / 4 + 192) * 8 <= 140737488355328 := ya; have s2 : k <= 4611686018427387903 := ya; have htk : (ptrs k).take k = ptrs k := A6a (by rw [a8b]; omega); rotate_left)
  | (refine yi ?_; refine a0e (σ := {i : Nat // i <= c.length}) (fun y => [(8, .sl [6, 99] 1 0 y.1), (10, .undef), (11, .undef)]) [48, 49] (fun y => [(50, .int .i64 (y.1 : Int))]) [] (fun y => [([6, 99], .cells 36 1 (lays (HL.take y.1)))]) (fun y => famA p p.fu.length) (fun y => c.length - y.1) ⟨0, by simp⟩ (gk5S [([6, 99], none)] rfl (cloN _ _) (fun _ h => h.elim) y0 y0 yy y0 y0 y0) ?_; rintro ⟨i, hi⟩; simp only [lpS, LPXB]; (try dsimp only at hi); have htl : (HL.take i).length = i := z2n; have htt : (lays (HL.take i)).take i = lays (HL.take i) := A6a (by rw [a0t]; omega); rcases a0c hi with hil | ⟨hil, e⟩; rotate_left; subst e; have htk : HL.take c.length = HL := A6a ya; have htk2 : (lays HL).take c.length = lays HL := A6a (by rw [a0t]; omega); rotate_left; have wi := wli hil ya; have hri : i < (hdG 64 c).length := ya; obtain ⟨gi, hgi⟩ := ex_ ((hdG 64 c)[i]); have hra := c0o gi M; obtain ⟨s0, hs0⟩ := ex_ (gi &&& M); rw [hs0] at hra; simp at hra; have hHi : i < HL.length := ya; have hrow : HL[i] = a4s s0 := (by rw [hHL i hHi hri, hgi, hs0]); have hlt2 := f5h hHi; rw [hrow] at hlt2; have hz := szn (n := i + 1) (k := 24) ya yb; have hz2 : i <= 4611686018427387903 := ya)
  | (refine yi ?_; refine a0e (σ := {y : BitVec 64 × List Int // y.2 ++ a4s y.1 = a4s s0}) (fun y => [(10, .int .u64 (y.1.1.toNat : Int)), (11, .sl [6, 97] 1 0 y.1.2.length)]) [48, 49, 50] (fun y => []) [] (fun y => [([6, 97], .cells 3 1 (ints y.1.2))]) (fun y => famA p p.fu.length) (fun y => (a4s y.1.1).length) ⟨(s0, []), by simp⟩ (gk5S [([6, 97], none)] rfl (cloN _ _) (fun _ h => h.elim) y0 y0 yy y0 y0 y0) ?_; rintro ⟨⟨t, dn⟩, hd⟩; simp only [lpS, LPXB]; (try dsimp only at hd); have hb64 := c4t s0; have hdl : dn.length + (a4s t).length = (a4s s0).length := (by rw [<- hd, A0b]); by_cases ht0 : t = 0; subst ht0; rw [f7o, A3x] at hd; subst hd; have hz0 : ((0 : BitVec 64).toNat : Int) = 0 := rfl; rotate_left; have htn : ¬ (t.toNat : Int) = 0 := (fun e => ht0 (A3a z1p)); have htn2 : ¬ t.toNat = 0 := (fun e => htn (by rw [e]; rfl)); obtain ⟨_, hl2⟩ := g1w ht0; have hst := b9s ht0; rw [hst] at hd; have hsb := f3x ht0; obtain ⟨u, hu⟩ := ex_ (t - 1); rw [hu] at hsb hst hl2 hd; have hra2 := c0o t u; obtain ⟨t2, ht2⟩ := ex_ (t &&& u); rw [ht2] at hra2 hst hl2 hd; simp at hra2; have htf := g6d t.toNat (A2b t.isLt yb); obtain ⟨z, hz9⟩ : ∃ z : Nat, Lib.ctz 64 t.toNat = z := ⟨_, rfl⟩; rw [hz9] at htf hd; clear hu ht2 hz9 hst; have hdd : (dn ++ [(z : Int)]) ++ a4s t2 = a4s s0 := (by simpa using hd); obtain ⟨s1, s2⟩ := s8 (A0a (A0a (Nat.le_add_right _ _) (Nat.le_of_eq hdl)) hb64); rotate_left)
  | (refine ye ?_; refine a0b (⟨k + 1, by omega⟩) (gk5S [([6, 98], some [6, 37])] rfl (cloN _ _) (fun _ h => h.elim) y0 y0 yy y0 y0 y0) yf)
  | (refine ye ?_; refine a0b ⟨i + 1, by omega⟩ (Gk.trans (gk5S [([6, 99], some [6, 71])] rfl (cloN _ _) (fun _ h => h.elim) y0 y0 yy y0 y0 y0) (b9j [6, 97] 3 1 (ints (a4s s0)) (cloN _ _) (fun _ h => h.elim) (by simp [*, SIMB, z0v, a8l]) (by simp [*, SIMB, a8l]) (by simp [*, SIMB]))) yf)
  | (refine ye ?_; refine a0b (⟨(t2, dn ++ [(z : Int)]), hdd⟩) (gk5S [([6, 97], some [6, 67])] rfl (cloN _ _) (fun _ h => h.elim) y0 y0 yy y0 y0 y0) (by dsimp only; exact hl2))
  | refine z2i ?_
  | (refine stpK ?_; intro K hK)
  | (refine stpC ?_; intro T E hT hE)
  | (refine stp2 ?_ ?_ <;> intro h)
  | refine cpG tV ?_
  | (refine yg ?_; clear hK K)
  | (refine yh ?_; clear hT hE T E)
  | simp [*, -List.all_flatten, -List.all_eq_true, yl, asR, a0q, Ins.row, a7j, a8l, c6j, a1a, PFin, a0t, a0g, a3n, b6b, a8b, d6z, e9s, e9r, a7f, a7b, FnD.row]
theorem f4c (n : Nat) {P : Program} {res : List ResultVar} {r y : FV} {s : Fs} {l : List FV} (hr : resL P s res = some l) (hy : frz s.H n (a0p l) = some y) (ha : asR y r) : PEnd P res r .ret s := ⟨.inr rfl, s, Wk.refl s, l, hr, n, y, hy, ha⟩
theorem d2f  : Pq 38 [] (.agg [.list 4 [[.str ⟨⟨[109, 97, 105, 110]⟩⟩, .int .i64 0, .int .i64 2, .list 5 [[.int .i64 18, .int .i64 0, .int .i64 0, .int .i64 0, .int .i64 0], [.int .i64 39, .int .i64 0, .int .i64 0, .int .i64 0, .int .i64 0], [.int .i64 18, .int .i64 1, .int .i64 1, .int .i64 0, .int .i64 0], [.int .i64 33, .int .i64 1, .int .i64 1, .int .i64 0, .int .i64 0], [.int .i64 18, .int .i64 0, .int .i64 0, .int .i64 0, .int .i64 0], [.int .i64 40, .int .i64 0, .int .i64 0, .int .i64 0, .int .i64 0], [.int .i64 30, .int .i64 (-1), .int .i64 0, .int .i64 0, .int .i64 0]]]], .list 2 [[.str ⟨⟨[109]⟩⟩, .int .i64 0], [.str ⟨⟨[120]⟩⟩, .int .i64 0]], .list 1 [], .int .i64 0]) := by
 refine yq Tryz.f38 [.cell 0 26] 2 17 [] 0 ?_
 repeat' first
  | (refine f4c 80 rfl rfl ?_; exact ⟨_, rfl, _, _, rfl, rfl, _, _, rfl, rfl, _, _, rfl, .inr ⟨1, rfl⟩, _, _, rfl, rfl, rfl⟩)
  | refine z2i ?_
  | (refine stpK ?_; intro K hK)
  | (refine stpC ?_; intro T E hT hE)
  | (refine stp2 ?_ ?_ <;> intro h)
  | (refine yg ?_; clear hK K)
  | (refine yh ?_; clear hT hE T E)
  | simp [*, -List.all_flatten, -List.all_eq_true, DEFB, asR, asRs, frz, frzs, frzR, frzN]
theorem d4p : Pq 38 [] (.agg [.list 4 (fns p5.fu), .list 2 (gbs p5.gl), .list 1 (lays p5.la), .int .i64 p5.main]) := d2f
theorem pgb5 : PgB p5 := ⟨by decide, by decide, by decide, fun x hx => by simp [p5] at hx, fun x hx => by simp [p5] at hx; subst hx; decide⟩
theorem f2m  : Pq 11 [] (.bool true) := by
 have hI : Pq 14 [.agg [.list 4 (fns p5.fu), .list 2 (gbs p5.gl), .list 1 (lays p5.la), .int .i64 p5.main], .int .i64 0] (.list 1 [[.list 1 []], [.list 1 []], [.list 1 [[.int .i64 0]]], [.list 1 [[.int .i64 0]]], [.list 1 [[.int .i64 0]]], [.list 1 [[.int .i64 0]]], [.list 1 []]]) := by
  have h := t_In pgb5 e3a (f := 0) yb
  rw [show p5.fu[0].code = c5 from rfl, g8d] at h
  exact h
 have hE : Pq 38 [] (.agg [.list 4 (fns p5.fu), .list 2 (gbs p5.gl), .list 1 (lays p5.la), .int .i64 p5.main]) := d4p
 have w1 : IntKind.wrap .i64 1 = 1 := by decide
 have w2 : IntKind.wrap .i64 2 = 2 := by decide
 have w3 : IntKind.wrap .i64 3 = 3 := by decide
 have w4 : IntKind.wrap .i64 4 = 4 := by decide
 have w5 : IntKind.wrap .i64 5 = 5 := by decide
 have w6 : IntKind.wrap .i64 6 = 6 := by decide
 have w7 : IntKind.wrap .i64 7 = 7 := by decide
 refine yq Tryz.f11 [.tmp 0] 3 25 [] 0 ?_
 repeat' first
  | (refine yi ?_; refine a0e (σ := {i : Nat // i <= 7}) (fun y => [(2, .int .i64 (y.1 : Int))]) [] (fun y => []) [] (fun y => []) (fun y => noH) (fun y => 7 - y.1) ⟨0, by simp⟩ yt ?_; rintro ⟨i, hi⟩; simp only [lpS, LPXB]; (try dsimp only at hi); have h8 : i = 0 \/ i = 1 \/ i = 2 \/ i = 3 \/ i = 4 \/ i = 5 \/ i = 6 \/ i = 7 := ya; rcases h8 with rfl | rfl | rfl | rfl | rfl | rfl | rfl | rfl)
  | (refine ye ?_; refine a0b (⟨1, by omega⟩) yt yf)
  | (refine ye ?_; refine a0b (⟨2, by omega⟩) yt yf)
  | (refine ye ?_; refine a0b (⟨3, by omega⟩) yt yf)
  | (refine ye ?_; refine a0b (⟨4, by omega⟩) yt yf)
  | (refine ye ?_; refine a0b (⟨5, by omega⟩) yt yf)
  | (refine ye ?_; refine a0b (⟨6, by omega⟩) yt yf)
  | (refine ye ?_; refine a0b (⟨7, by omega⟩) yt yf)
  | refine z2i ?_
  | (refine stpK ?_; intro K hK)
  | (refine stpC ?_; intro T E hT hE)
  | (refine stp2 ?_ ?_ <;> intro h)
  | refine cpG hE ?_
  | refine cpG hI ?_
  | (refine yg ?_; clear hK K)
  | (refine yh ?_; clear hT hE T E)
  | simp [*, -List.all_flatten, -List.all_eq_true, DEFB, asR]
theorem e3s (hv : a0m p = true) (hF : FOk p f nm pa rg c) (hi : i < c.length) (hN : p.gl.length = N) (s : BitVec N) : PCn Tp Gl 85 [PA p, .int .i64 f, .int .i64 i, .list 1 (a0k (bvL s))] (.list 1 (a0k (bvL (aftB c[i] (usC c i) s)))) := by
 have hc := hF.hc
 have h1000 := hc.n1000
 have he := hF.e
 have hf := hF.hf
 have hil : (i : Int) < (c.length : Int) := by omega
 have hfl : f < (fns p.fu).length := by rw [a2a]; exact hf
 have hN64 := b9i hv
 have tD := c8c hv hF hi
 have hu := f1x hv hF i
 have hsl := a8o s
 obtain ⟨u, huu⟩ := ex_ (usC c i)
 rw [huu] at tD hu ⊢
 have hs1 : (N + N / 4 + 192) * 8 <= 140737488355328 := by omega
 have hs2 : (N : Int) <= 4611686018427387904 := by omega
 have hs3 : N <= 4611686018427387904 := by omega
 have hs4 : N + N / 4 <= 140737488355136 := by omega
 have htk : (a0k (bvL s)).take N = a0k (bvL s) := A6a (by rw [a0u]; omega)
 by_cases h0 : 0 <= u
 . have hA := f7f s (n := c[i]) h0
   have hul : u.toNat < (bvL s).length := by omega
   have hb1 := a1b (bvL s) u.toNat (decide (c[i].op = 39)) hul
   rw [hA] at hb1
   have hAl := a8o (aftB c[i] u s)
   have huN : u < (N : Int) := by omega
   have htk2 : (a0k (bvL (aftB c[i] u s))).take N = a0k (bvL (aftB c[i] u s)) := A6a (by rw [a0u]; omega)
   clear hA
   refine z2u Tryz.f85 [.tmp 8] 11 35 [] 0 ?_
   repeat' first
    | refine z2i ?_
    | (refine stpK ?_; intro K hK)
    | (refine stpC ?_; intro T E hT hE)
    | (refine stp2 ?_ ?_ <;> intro h)
    | refine cpG tD ?_
    | (refine yg ?_; clear hK K)
    | (refine yh ?_; clear hT hE T E)
    | simp [*, -List.all_flatten, -List.all_eq_true, yl, asR, a0q, FnD.row, Ins.row, wa, a1w, a0i, a2b, a1r, FV.cellV, frzN, a9w, c3r, PFin]
 . have hA := g4g s (n := c[i]) h0
   refine z2u Tryz.f85 [.tmp 8] 11 35 [] 0 ?_
   repeat' first
    | refine z2i ?_
    | (refine stpK ?_; intro K hK)
    | (refine stpC ?_; intro T E hT hE)
    | (refine stp2 ?_ ?_ <;> intro h)
    | refine cpG tD ?_
    | (refine yg ?_; clear hK K)
    | (refine yh ?_; clear hT hE T E)
    | simp [*, -List.all_flatten, -List.all_eq_true, yl, asR, a0q, FnD.row, Ins.row, wa, a1w, a0i, a2b, a1r, FV.cellV, frzN, a9w, c3r, PFin]
def hd6 (ns : List FM.Loc) : Bool := ns.all fun n => match n with | q :: _ => !(q == 63) | [] => false
theorem d8z {ns : List FM.Loc} (h : hd6 ns = true) : ∀ n ∈ ns, ∃ q r, n = q :: r /\ q ≠ 63 := fun n hn => by
 have := List.all_eq_true.1 h n hn
 match n with
 | [] => simp at this
 | q :: r =>
   simp at this
   exact ⟨q, r, rfl, this⟩
theorem g8j {c : Cfg} {σ : Type} {vs0 vs : List FV} {tm0 tm : Asg} {L0 : LF} {ix : List Nat} {sv : σ -> List (Nat × FV)} {kt : List Nat} {st : σ -> Asg} {dl : List FM.Loc} {sh : σ -> LF} {fA : σ -> Heap} {x : σ} (s : BitVec N) (k : Nat) (l : FM.Loc) (b : List (FM.Loc × Option FM.Loc)) (hk : g.length = k) (hfA : fA x = famB (g ++ [s])) (hc : ∀ q, ¬ c.L q)
 (hn : hd6 ((a2n (sh x) (delL dl L0)).map Prod.fst ++ l :: b.map Prod.fst ++ b.filterMap Prod.snd) = true) (hl : hd6 (L.map Prod.fst) = true)
 (hinj : injB (bk (([63, k], some l) :: b)) ([63, k] :: (a2n (sh x) (delL dl L0)).map Prod.fst) = true)
 (hv : a7m (bk (([63, k], some l) :: b)) (inH (HP (a2n (sh x) (delL dl L0)) noH (famB (g ++ [s])))) (setV (sv x) vs0) vs)
 (ht : simT (bk (([63, k], some l) :: b)) (inH (HP (a2n (sh x) (delL dl L0)) noH (famB (g ++ [s])))) vs.length tm (st x ++ a6s kt tm0))
 (hH : simH (bk (([63, k], some l) :: b)) (inH (HP (a2n (sh x) (delL dl L0)) noH (famB (g ++ [s])))) (HP L noH (famB g)) (([63, k], .cells 4 1 (a0k (bvL s))) :: a2n (sh x) (delL dl L0))) : Gk c (lpS vs0 tm0 L0 noH sv kt st dl sh fA x) ⟨vs, tm, HP L noH (famB g), ix⟩ := by
 subst hk
 have e := e6y (a2n (sh x) (delL dl L0)) noH g s
 rw [<- e] at hv ht hH
 have fr : ∀ n, (∃ q r, n = q :: r /\ q ≠ 63) -> ext noH (famB g) n = none := fun n ⟨q, r, h1, h2⟩ => by rw [h1]; exact a0s.2 ⟨b1o g h2, rfl⟩
 have hd := d8z hn
 refine gk5 (L1 := ([63, g.length], .cells 4 1 (a0k (bvL s))) :: a2n (sh x) (delL dl L0)) (([63, g.length], some l) :: b) (by rw [e, hfA]) hinj (fun n hn' => ?_) (fun p hp => ?_) (b0s g) (fun q hq => (hc q hq).elim) hv ht hH
 . have h63 : ext noH (famB g) [63, g.length] = none := a0s.2 ⟨c1t g (A5s _), rfl⟩
   simp only [A1m, A4i, A0o, A0m] at hn'
   rcases hn' with ((rfl | h) | (rfl | h)) | (rfl | h)
   . exact h63
   . exact fr n (hd n (A1o _ (A1o _ h)))
   . exact h63
   . exact fr n (hd n (A1o _ (A2f _ (A2t _ h))))
   . exact fr _ (hd _ (A1o _ (A2f _ A3r)))
   . exact fr n (hd n (A2f _ h))
 . exact fr _ (d8z hl p.1 (A1t.2 ⟨p, hp, rfl⟩))
theorem b2d {α : Type} {f h : α -> List FV} {l : List α} (he : ∀ a ∈ l, rens β (f a) = h a) : renss β (l.map f) = l.map h := by
 induction l with
 | nil => rfl
 | cons a l ih =>
   show rens β (f a) :: renss β (l.map f) = _
   rw [he a yd, ih fun x hx => he x wo]; rfl
theorem a9t {β : FM.Loc -> Option FM.Loc} {U : FM.Loc -> Prop} : ∀ {l : List (List FV)}, (∀ r ∈ l, inns β U r) -> a3z β U l
 | [], _ => trivial
 | r :: l, h => ⟨h r yd, a9t fun x hx => h x wo⟩
theorem b3f (h : ∀ i, β [63, i] = some [63, i]) : renss β (rowB n k N) = rowB n k N := by
 unfold rowB
 refine b2d fun i _ => ?_
 split <;> simp [rens, ren, h]
theorem b6m (hk : k < n) (h : ∀ i, i ≠ k -> β [63, i] = some [63, i]) (hl : β [63, k] = some l) : renss β (rowB n (k + 1) N) = rowX n k N l := by
 have e : rowX n k N l = (List.range n).map fun i => if i = k then [.sl l 1 0 N] else if i < k then [.sl [63, i] 1 0 N] else [.nils] := by
  unfold rowX rowB
  refine A0e yd fun i h1 h2 => ?_
  rw [A1e]
  simp only [A2s, A3t]
  by_cases e : k = i
  . subst e; simp
  . have e' : ¬ i = k := fun h => e h.symm
    rw [if_neg e, if_neg e']
 rw [e]
 unfold rowB
 refine b2d fun i _ => ?_
 by_cases e2 : i = k
 . subst e2; simp [rens, ren, hl]
 . by_cases h3 : i < k
   . have : i < k + 1 := by omega
     simp [e2, h3, this, rens, ren, h i e2]
   . have : ¬ i < k + 1 := by omega
     simp [e2, h3, this, rens, ren]
theorem b3e {l' : FM.Loc} (h : ∀ i, β [63, i] = some [63, i]) (hl : β l = some l') : renss β (rowX n k N l) = rowX n k N l' := by
 have e : ∀ l, rowX n k N l = (List.range n).map fun i => if k = i then [.sl l 1 0 N] else if i < k then [.sl [63, i] 1 0 N] else [.nils] := fun l => by
  unfold rowX rowB
  refine A0e yd fun i h1 h2 => ?_
  rw [A1e]
  simp only [A2s, A3t]
 rw [e, e]
 refine b2d fun i _ => ?_
 split
 . simp [rens, ren, hl]
 . split <;> simp [rens, ren, h]
theorem b0n (h : ∀ i, (β [63, i]).isSome = true) (hk : k <= g.length) : a3z β (inH (HP L B (famB g))) (rowB n k M) := a9t fun r hr => by
 obtain ⟨i, hi, rfl⟩ := A1t.1 hr
 split
 . refine ⟨⟨?_, .inl (h i)⟩, trivial⟩
   show HP L B (famB g) [63, i] ≠ none
   rw [b1t ya]; simp
 . exact ⟨trivial, trivial⟩
theorem b3m (h : ∀ i, (β [63, i]).isSome = true) (hk : k <= g.length) (hl : (β l).isSome = true) (hu : HP L B (famB g) l ≠ none) : a3z β (inH (HP L B (famB g))) (rowX n k M l) := a9t fun r hr => by
 rcases A2p hr with h1 | rfl
 . obtain ⟨i, hi, rfl⟩ := A1t.1 h1
   split
   . refine ⟨⟨?_, .inl (h i)⟩, trivial⟩
     show HP L B (famB g) [63, i] ≠ none
     rw [b1t ya]; simp
   . exact ⟨trivial, trivial⟩
 . exact ⟨⟨hu, .inl hl⟩, trivial⟩
theorem a4n : ∀ n : Nat, nlss (List.replicate n [FV.nils]) = true
 | 0 => rfl
 | n + 1 => by rw [List.replicate_succ]; simpa [nlss, nls, nl] using a4n n
theorem f3n (h : i < (rowB n k N).length) : ((rowB n k N)[i]).length = 1 := by
 simp only [rowB, A2s]
 split <;> rfl
theorem g0c (h : k < (rowX n k N l).length) : (rowX n k N l)[k] = [.sl l 1 0 N] := by
 have := d5y (n := n) (k := k) (N := N) (l := l) (by rwa [b2c] at h)
 rw [A5n h] at this
 exact A5o this
theorem f3o (l : FM.Loc) : (rowB n k N).modify k (fun r => FV.sl l 1 0 N :: r.tail) = rowX n k N l := by
 unfold rowX
 refine A0e (by simp [a6x]) fun i h1 h2 => ?_
 rw [A2w, A1e]
 split
 . rename_i e; subst e; simp [rowB]
 . rfl
theorem g0_s (h : k < c.length) : (g0B N c).take (k + 1) = (g0B N c).take k ++ [(g0B N c).getD k 0] := by
 have hl : k < (g0B N c).length := by rw [a7g]; exact h
 rw [A0n hl, A5m, A5n hl]; rfl
def rowH (c : List Ins) (k N : Nat) : List (List FV) := (List.range c.length).map fun i => [.sl [63, if i < k then hd c i else i] 1 0 N]
theorem b5c (c : List Ins) (k N : Nat) : (rowH c k N).length = c.length := by simp [rowH]
theorem g0e (c : List Ins) (N : Nat) : rowH c 0 N = rowB c.length c.length N := by
 unfold rowH rowB
 refine A1f fun i hi => ?_
 have := A2k.1 hi
 simp [this]
theorem g8e (hc : CodeOk c) (h : k < c.length) : hd c (hd c k) = hd c k := by
 have h1 := b2o c k
 exact a5o ya (d3e hc k h ya)
theorem f3m (hc : CodeOk c) (h : k < c.length) : (rowH c k N)[hd c k]? = some [.sl [63, hd c k] 1 0 N] := by
 have h1 := b2o c k
 rw [A5n (by rw [b5c]; omega)]
 simp only [rowH, A2s, A3t]
 split
 . rw [g8e hc h]
 . rfl
theorem g0d (h : k < c.length) : (rowH c k N).modify k (fun r => FV.sl [63, hd c k] 1 0 N :: r.tail) = rowH c (k + 1) N := by
 refine A0e (by simp [rowH]) fun i h1 h2 => ?_
 rw [A2w]
 split
 . rename_i e; subst e
   simp [rowH]
 . rename_i e
   simp only [rowH, A2s, A3t]
   by_cases h3 : i < k
   . rw [if_pos h3, if_pos ya]
   . rw [if_neg h3, if_neg ya]
theorem d2p (h : ∀ i, β [63, i] = some [63, i]) : renss β (rowH c k N) = rowH c k N := by
 unfold rowH
 exact b2d fun i _ => by simp [rens, ren, h]
theorem d2z (h : ∀ i, (β [63, i]).isSome = true) (hg : g.length = c.length) : a3z β (inH (HP L B (famB g))) (rowH c k M) := a9t fun r hr => by
 obtain ⟨i, hi, rfl⟩ := A1t.1 hr
 have h1 := A2k.1 hi
 have h2 := b2o c i
 refine ⟨⟨?_, .inl (h _)⟩, trivial⟩
 show HP L B (famB g) [63, if i < k then hd c i else i] ≠ none
 rw [b1t (by split <;> omega)]; simp
def bls {N : Nat} (g : List (BitVec N)) : List (List FV) := g.map fun s => [.list 1 (a0k (bvL s))]
theorem b5j {N : Nat} : ∀ g : List (BitVec N), nlss (bls g) = true
 | [] => rfl
 | s :: g => by simpa [bls, nlss, nls, nl, a0i] using b5j g
theorem c2f (g : List (BitVec N)) : (bls g).length = g.length := by simp [bls]
theorem e1t (h : i < (bls g).length) : (bls g)[i] = [.list 1 (a0k (bvL (g[i]'(by rwa [c2f] at h))))] := by simp [bls]
theorem g2y (h : k < c.length) (hr : k < (a2d c).length) : ∃ (b : Bool) (s : BitVec N), ((a2d c)[k] = true /\ 0 < k ↔ b = true) /\ (g0B N c).getD k 0 = s /\ bvL s = List.replicate N b := by
 have h1 := b9l (N := N) h
 by_cases hx : Rc c (hd c k) /\ 0 < k
 . refine ⟨true, BitVec.allOnes N, ?_, h1.1 hx, e7z N⟩
   rw [a7o hr]
   exact ⟨fun _ => rfl, fun _ => hx⟩
 . refine ⟨false, 0, ?_, h1.2 hx, e7y N⟩
   rw [a7o hr]
   exact ⟨fun h => absurd h hx, fun h => by cases h⟩
theorem d0y {N : Nat} (o : BitVec N) : ∀ (l : List Int) (s : List (BitVec N) × Bool), (edsB o s l).1.length = s.1.length
 | [], _ => rfl
 | w :: l, s => by
   have e : edsB o s (w :: l) = edsB o (edB o s w) l := rfl
   have e2 : (edB o s w).1.length = s.1.length := by
    unfold edB
    split
    . rfl
    . split
      . rfl
      . simp
   rw [e, d0y o l, e2]
theorem g3q (o : BitVec N) (g : List (BitVec N)) (m : Bool) {w : Int} (h : g[w.toNat]? = some x) : edB o (g, m) w = (g.set w.toNat (xV x o N), m || fV x o N) := by
 rw [f8s, g3m]
 unfold edB
 simp only [h]
 by_cases e : x &&& o = x
 . have hl : w.toNat < g.length := by
    rcases A0r w.toNat g.length with h1 | h1
    . exact h1
    . rw [A5y h1] at h; cases h
   have hx : g[w.toNat] = x := by rw [A5n hl] at h; exact A5o h
   have e2 : g.set w.toNat x = g := by rw [<- hx]; exact A2q hl
   rw [if_pos e, e, e2]; simp
 . rw [if_neg e]; simp [e]
theorem c3c {o : BitVec N} (h : g[i]? = some x) : g.set i (xV x o 0) = g := by
 have hl : i < g.length := by
  rcases A0r i g.length with h1 | h1
  . exact h1
  . rw [A5y h1] at h; cases h
 have hx : g[i] = x := by rw [A5n hl] at h; exact A5o h
 show g.set i x = g
 rw [<- hx]; exact A2q hl
theorem e8p (h : i < g.length) (s : BitVec N) : HP L B (famB (g.set i s)) [63, i] = some (.cells 4 1 (a0k (bvL s))) := by
 rw [b1t zl]; simp
theorem e8o (h : i < g.length) (s t : BitVec N) : upd (HP L B (famB (g.set i s))) [63, i] (.cells 4 1 (a0k (bvL t))) = HP L B (famB (g.set i t)) := by
 rw [e8n zl, List.set_set]
theorem e4j (hc : CodeOk c) (hI : Hin N c g) (h : k <= c.length) : (rndR c g k).1.length = c.length := (b5e hc hI k h).inn.len
theorem c8q (c : List Ins) (g : List (BitVec N)) : rndR c g 0 = (g, false) := rfl
theorem g0g (h : k < c.length) (hr : k < (a2d c).length) : rndR c g (k + 1) = if (a2d c)[k] = true then edsB (aftB c[k] (usC c k) ((rndR c g k).1.getD k 0)) (rndR c g k) (nx c k) else rndR c g k := by
 rw [rndR, c8f h]
 by_cases e : Rc c (hd c k)
 . rw [if_pos e, if_pos ((a7o hr).2 e)]
 . rw [if_neg e, if_neg fun h => e ((a7o hr).1 h)]
theorem f3q (hc : CodeOk c) (hI : Hin N c g) : (Hin N c (rndR c g c.length).1 /\ ((rndR c g c.length).2 = false -> hdR c (rndR c g c.length).1 c.length = hdG N c)) /\ muG c (rndR c g c.length).1 (rndR c g c.length).2 < muG c g true :=
 ⟨⟨(c3f hc hI).1, fun h => (e4k hc hI h).1⟩, (c3f hc hI).2⟩
theorem bvb (x : BitVec N) (hv : v < N) : (a0k (bvL x))[v]? = some [.bool (x.getLsbD v)] := by
 rw [a1l z35, b2y]
theorem bvm {o : BitVec N} (hv : v < N) (hx : x.getLsbD v = true) (ho : o.getLsbD v = false) : (a0k (bvL (xV x o v))).modify v (fun r => FV.bool false :: r.tail) = a0k (bvL (xV x o (v + 1))) := by
 rw [a1b _ _ _ z35, (xV_y hv hx ho).1]
theorem f1a (s : BitVec N) : (bvL s).take N = bvL s := A6a (by rw [a8o]; exact A5s _)
theorem d0n {H : Heap} {N : Nat} {g : List (BitVec N)} (hH : ∀ i (h : i < g.length), H [63, i] = some (.cells 4 1 (a0k (bvL g[i])))) : ∀ (ix : List Nat), (∀ i ∈ ix, i < g.length) -> ∀ n, ix.length + 4 <= n -> frzR H n (ix.map fun i => [.sl [63, i] 1 0 N]) = some (ix.map fun i => [.list 1 (a0k (bvL (g.getD i 0)))])
 | [], _, n, h => by
   obtain ⟨m, rfl⟩ : ∃ m, n = m + 1 := ⟨n - 1, by simp at h; omega⟩
   simp [frzR, nlss]
 | i :: ix, hi, n, h => by
   simp only [A1a] at h
   obtain ⟨m, rfl⟩ : ∃ m, n = m + 4 := ⟨n - 4, by omega⟩
   have ih := d0n hH ix (fun j hj => hi j (A2t _ hj)) (m + 3) ya
   have h1 := hi i A3r
   have h2 : g.getD i 0 = g[i] := by rw [A5m, A5n h1]; rfl
   rw [A1m, A1m, frzR, if_neg (by simp [nlss, nls, nl])]
   simp only [ih, frzs, frz, hH i h1, h2]
   simp [a0u, a8o, a2b, f1a, a9w]
theorem e6n {H : Heap} (hg : g.length = c.length) (hH : ∀ i (h : i < g.length), H [63, i] = some (.cells 4 1 (a0k (bvL g[i])))) (h64 : H [64] = some (.cells 37 1 (rowH c c.length N))) : frz H (c.length + 5) (.sl [64] 1 0 c.length) = some (.list 1 (bls (hdR c g c.length))) := by
 have h := d0n hH ((List.range c.length).map fun i => if i < c.length then hd c i else i) (fun i hi => by
  obtain ⟨j, hj, rfl⟩ := A1t.1 hi
  have h1 := A2k.1 hj
  have h2 := b2o c j
  rw [if_pos h1]; omega) (c.length + 4) yd
 have e1 : (((List.range c.length).map fun i => if i < c.length then hd c i else i).map fun i => [FV.sl [63, i] 1 0 N]) = rowH c c.length N := by simp [rowH]
 have e2 : (((List.range c.length).map fun i => if i < c.length then hd c i else i).map fun i => [FV.list 1 (a0k (bvL (g.getD i 0)))]) = bls (hdR c g c.length) := by simp [bls, hdR]
 rw [e1, e2] at h
 rw [frz, h64]
 simp [b5c, h]
 rw [A6a (by rw [b5c]; exact A5s _), h]
theorem d7d {P : Program} {s : Fs} {res : List ResultVar} {l : List FV} {y r : FV} (n : Nat) (hl : resL P s res = some l) (hy : frz s.H n (a0p l) = some y) (hr : asR y r) : PEnd P res r .ret s := ⟨.inr rfl, s, Wk.refl s, l, hl, n, y, hy, hr⟩
theorem f3l (h : i < (rowH c k N).length) : ((rowH c k N)[i]).length = 1 := by simp [rowH]
theorem b5s (o : BitVec N) (s : List (BitVec N) × Bool) : edsB o s [] = s := rfl
theorem fV_0 (x o : BitVec N) : fV x o 0 = false := rfl
theorem Hin0 (hc : CodeOk c) : Hin N c (g0B N c, true).1 /\ ((g0B N c, true).2 = false -> hdR c (g0B N c, true).1 c.length = hdG N c) := ⟨g2z hc, fun h => by cases h⟩
def b64 (N : Nat) (s : BitVec 64) : List Bool := (List.range N).map fun v => s.getLsbD v
theorem b3x (N : Nat) (s : BitVec 64) : (b64 N s).length = N := by simp [b64]
theorem c4u {s : BitVec 64} (h : v < (b64 N s).length) : (b64 N s)[v] = s.getLsbD v := by simp [b64]
theorem g4l (N : Nat) (s : BitVec 64) : (b64 N s).take N = b64 N s := A6a (by rw [b3x]; exact A5s _)
theorem f7q (hN : N <= 64) : b64 N (BitVec.allOnes 64) = List.replicate N true := by
 refine A0e (by simp [b64]) fun v h1 h2 => ?_
 have hv : v < N := by simpa using h2
 rw [c4u h1, BitVec.getLsbD_allOnes, List.getElem_replicate]
 exact decide_eq_true ya
theorem h0b (N : Nat) : b64 N 0 = List.replicate N false := by
 refine A0e (by simp [b64]) fun v h1 h2 => ?_
 rw [c4u h1]; simp
theorem h0a (N : Nat) : b64 N (.ofNat 64 0) = List.replicate N false := h0b N
theorem f7p (hN : N <= 64) (s : BitVec 64) {u : Nat} : (b64 N s).set u false = b64 N (s &&& ~~~BitVec.twoPow 64 u) := by
 refine A0e (by simp [b64]) fun v h1 h2 => ?_
 have hv : v < N := by simpa [b64] using h2
 rw [A1e, c4u h2, A1k, A5h, A2l]
 split
 . rename_i e; subst e
   have : u < 64 := by omega
   simp [this]
 . rename_i e
   rw [c4u (by rw [b3x]; exact hv)]
   have : v < 64 := by omega
   simp [e, this]
theorem Hd_w (hN : N <= 64) (hv : v < N) : Hd N c i v ↔ Hd 64 c i v := by
 constructor
 . rintro ⟨X, ⟨h0, h1, h2⟩, hx⟩
   exact ⟨X, ⟨h0, fun i v h => ⟨(h1 i v h).1, by have := (h1 i v h).2; omega⟩, h2⟩, hx⟩
 . rintro ⟨X, ⟨h0, h1, h2⟩, hx⟩
   refine ⟨fun i v => X i v /\ v < N, ⟨fun v h => h0 v h.1, fun i v h => ⟨(h1 i v h.1).1, h.2⟩, fun i hi hr w hw v h => ?_⟩, hx, hv⟩
   have := h2 i hi hr w hw v h.1
   split
   . rename_i e; rwa [if_pos e] at this
   . rename_i e; rw [if_neg e] at this; exact ⟨this, h.2⟩
theorem g2q (hN : N <= 64) {u : Nat} (hi : i < c.length) (hu : u < N) : ((hdG N c).getD i 0).getLsbD u = ((hdG 64 c).getD i 0).getLsbD u := by
 rw [A2n, c1h hi hu, c1h hi ya]
 exact Hd_w hN hu
theorem dscI (hN : N <= 64) (hi : i < c.length) (hu : usC c i < (N : Int)) (s : BitVec 64) (h : i < (hdG N c).length) :
 (¬ (c[i].op = 40 /\ 0 <= usC c i) /\ dsI c i s = s) \/ (c[i].op = 40 /\ 0 <= usC c i /\ ((hdG N c)[i]).getLsbD (usC c i).toNat = true /\ dsI c i s = s) \/
 (c[i].op = 40 /\ 0 <= usC c i /\ ((hdG N c)[i]).getLsbD (usC c i).toNat = false /\ b64 N (dsI c i s) = (b64 N s).set (usC c i).toNat false) := by
 rw [e0q hi]
 by_cases h1 : c[i].op = 40 /\ 0 <= usC c i
 . have hw := g2q hN hi (show (usC c i).toNat < N by omega)
   have hD : (hdG N c).getD i 0 = (hdG N c)[i] := by rw [A5m, A5n h]; rfl
   rw [hD] at hw
   cases hb : ((hdG N c)[i]).getLsbD (usC c i).toNat with
   | true =>
     rw [hb] at hw
     exact .inr (.inl ⟨h1.1, h1.2, rfl, by rw [if_neg]; rintro ⟨_, _, h4⟩; rw [<- hw] at h4; cases h4⟩)
   | false =>
     rw [hb] at hw
     exact .inr (.inr ⟨h1.1, h1.2, rfl, by rw [if_pos ⟨h1.1, h1.2, hw.symm⟩, f7p hN]⟩)
 . exact .inl ⟨h1, by rw [if_neg]; rintro ⟨h2, h3, _⟩; exact h1 ⟨h2, h3⟩⟩
theorem f5u {l : List Int} {n : Int} : hasI l n = true ↔ n ∈ l := by simp [hasI]
theorem d4x (hv : a0m p = true) (hF : FOk p f nm pa rg c) (hN : p.gl.length = N) : Pq 43 [PA p, .int .i64 f] (.list 1 (bls (hdG N c))) := by
 have hc := hF.hc
 have h1000 := hc.n1000
 have he := hF.e
 have hf := hF.hf
 have hne := hc.ne
 have hfl : f < (fns p.fu).length := by rw [a2a]; exact hf
 have hN64 : N <= 64 := by rw [<- hN]; exact b9i hv
 have tRe := e3p (nm := nm) (pa := pa) (rg := rg) hc
 have hrl := a4w c
 have hs1 : (c.length : Int) <= 4611686018427387904 := by omega
 have hs2 : (c.length : Int) <= 281474976710656 := by omega
 have hs3 : (N : Int) <= 4611686018427387904 := by omega
 have hs4 : (N : Int) <= 281474976710656 := by omega
 have hs5 : 8 * (c.length : Int) <= 281474976710656 := by omega
 have hs6 : 24 * (c.length : Int) <= 281474976710656 := by omega
 refine yq Tryz.f43 [.tmp 4] 18 138 [] 0 ?_
 repeat' first
  | ((with_reducible refine d7d (l := [.sl [64] 1 0 c.length]) (y := .list 1 (bls (hdG N c))) (c.length + 5) ?_ ?_ ?_); (focus (simp [DEFB]; done)); (focus (have hfr := e6n (H := HP [([0, 2], .cells 26 4 [[.list 4 (fns p.fu), .list 2 (gbs p.gl), .list 1 (lays p.la), .int .i64 p.main]]), ([0, 5], .cells 35 4 [[.str nm, .int .i64 pa, .int .i64 rg, .list 5 (inss c)]]), ([64], .cells 37 1 (rowH c c.length N))] noH (famB g)) hgl (fun i h => b1t h) (by simp [HPXB, b1o]); rw [hzf] at hfr; exact hfr)); (focus (simp [asR]; done)))
  | (refine yi ?_; refine a0e (σ := {k : Nat // k <= c.length}) (fun y => [(8, .sl [64] 1 0 c.length), (9, .int .i64 (y.1 : Int)), (10, .undef)]) [] (fun y => []) [[0, 31]] (fun y => [([64], .cells 37 1 (rowB c.length y.1 N))]) (fun y => famB ((g0B N c).take y.1)) (fun y => c.length - y.1) ⟨0, by simp⟩ (gk5S [([64], some [0, 31])] (by simp [b5q]) c5pc (fun _ h => h.elim) zm zm yy zm zm zm) ?_; rintro ⟨k, hk⟩; simp only [lpS, LPXB]; (try dsimp only at hk); have hgk : ((g0B N c).take k).length = k := (by rw [A0j, a7g]; omega); rcases a0c hk with hlk | ⟨hlk, e⟩; rotate_left; subst e; have hg0l := a7g (N := N) (c := c); have htk : (g0B N c).take c.length = g0B N c := A6a (by rw [a7g]; exact A5s _); rotate_left; have wk := wli hlk ya; have hrg := e4g (N := N) hlk; have hrm := fun l => f3o (n := c.length) (k := k) (N := N) l; have hir : k < (a2d c).length := ya; have hgr : (a0k (a2d c))[k]? = some [.bool (a2d c)[k]] := a1l hir; have hg1 := b9l (N := N) hlk; have hrr := a7o hir; obtain ⟨b, s, hb1, hb2, hb3⟩ : ∃ (b : Bool) (s : BitVec N), ((a2d c)[k] = true /\ 0 < k ↔ b = true) /\ (g0B N c).getD k 0 = s /\ bvL s = List.replicate N b := g2y hlk hir; have hgs := g0_s (N := N) hlk; rw [hb2] at hgs; clear hg1 hrr; obtain ⟨R, hR⟩ := ex_ ((a2d c)[k]); rw [hR] at hgr hb1)
  | (refine yi ?_; refine a0e (σ := {v : Nat // v <= N}) (fun y => [(10, .int .i64 (y.1 : Int))]) [] (fun y => []) [[0, 41]] (fun y => [([64], .cells 37 1 (rowX c.length k N [62])), ([62], .cells 4 1 (a0k (rpB N y.1 b)))]) (fun y => famB ((g0B N c).take k)) (fun y => N - y.1) ⟨0, by simp⟩ (gk5S [([62], some [0, 41])] rfl (b0s _) (fun _ h => h.elim) zm zm yy zm zm zm) ?_; rintro ⟨v, hv2⟩; simp only [lpS, LPXB]; (try dsimp only at hv2); have hrl := d5t hv2 b; have hxa := d5y (n := c.length) (N := N) (l := [62]) hlk; rcases a0c hv2 with hlv | ⟨hlv, e⟩; rotate_left; have e2 := e.symm; clear e; subst e2; have hre := d5u N b; rw [<- hb3] at hre; rotate_left; have wv := wli hlv ya; have hbm := a1b (rpB N v b) v b ya; rw [g0b hlv] at hbm; have hgv : (a0k (rpB N v b))[v]? = some [.bool ((rpB N v b)[v]'ya)] := a1l ya; cases R; have hbf : b = false := (by cases b; rfl; exact absurd (hb1.2 rfl).1 yd); subst hbf; rotate_left; by_cases hk0 : 0 < k; have hbt : b = true := hb1.1 ⟨rfl, hk0⟩; subst hbt; have hk0i : (0 : Int) < (k : Int) := ya; rotate_left; have hbf : b = false := (by cases b; rfl; exact absurd (hb1.2 rfl).2 hk0); subst hbf; have hk0i : ¬ (0 : Int) < (k : Int) := ya; rotate_left)
  | (refine yi ?_; refine a0e (σ := {x : List (BitVec N) × Bool // Hin N c x.1 /\ (x.2 = false -> hdR c x.1 c.length = hdG N c)}) (fun y => [(11, .bool y.1.2), (12, .undef), (13, .undef), (14, .undef), (15, .undef), (16, .undef)]) [] (fun y => []) [] (fun y => []) (fun y => famB y.1.1) (fun y => muG c y.1.1 y.1.2) ⟨(g0B N c, true), Hin0 hc⟩ z1q ?_; rintro ⟨⟨g, m⟩, hI, hz⟩; simp only [lpS, LPXB]; (try dsimp only at hI hz); have hgl := hI.len; cases m; have hzf := hz rfl; rotate_left; have hgo := f3q hc hI; rotate_left)
  | (refine yi ?_; refine a0e (σ := {i : Nat // i <= c.length}) (fun y => [(11, .bool (rndR c g y.1).2), (12, .int .i64 (y.1 : Int)), (13, .undef), (14, .undef), (15, .undef), (16, .undef)]) [] (fun y => []) [] (fun y => []) (fun y => famB (rndR c g y.1).1) (fun y => c.length - y.1) ⟨0, by simp⟩ z1q ?_; rintro ⟨i, hi⟩; simp only [lpS, LPXB]; (try dsimp only at hi); have hil := e4j hc hI hi; rcases cl2 hi ya with ⟨hli, wi⟩ | ⟨hli, rfl⟩; have hir : i < (a2d c).length := ya; have hgr : (a0k (a2d c))[i]? = some [.bool (a2d c)[i]] := a1l hir; have hrs := g0g (g := g) hli hir; obtain ⟨R, hR⟩ := ex_ ((a2d c)[i]); rw [hR] at hgr hrs; obtain ⟨⟨gi, mi⟩, hgi⟩ := ex_ (rndR c g i); rw [hgi] at hrs hil; rw [hgi]; dsimp only at hil hrs ⊢; cases R; rw [if_neg yd] at hrs; rotate_left; rw [if_pos rfl] at hrs; have hgd : gi.getD i 0 = gi[i]'ya := (by rw [A5m, A5n ya]; rfl); rw [hgd] at hrs; have hfm := fun L => b1t (L := L) (B := noH) (g := gi) (i := i) ya; have tA := e3s hv hF hli hN (gi[i]'ya); have tN := c5i (nm := nm) (pa := pa) (rg := rg) hc hli; obtain ⟨o, ho⟩ := ex_ (aftB c[i] (usC c i) (gi[i]'ya)); rw [ho] at hrs tA; rotate_left)
  | (refine yi ?_; refine a0e (σ := {j : Nat // j <= (nx c i).length}) (fun y => [(11, .bool (edsB o (gi, mi) ((nx c i).take y.1)).2), (15, .int .i64 (y.1 : Int)), (16, .undef)]) [] (fun y => []) [] (fun y => []) (fun y => famB (edsB o (gi, mi) ((nx c i).take y.1)).1) (fun y => (nx c i).length - y.1) ⟨0, by simp⟩ z1q ?_; rintro ⟨j, hj⟩; simp only [lpS, LPXB]; (try dsimp only at hj); have hel := d0y o ((nx c i).take j) (gi, mi); dsimp only at hel; rw [hil] at hel; rcases a0c hj with hlj | ⟨hlj, e⟩; rotate_left; subst e; rw [A0c] at hel ⊢; rotate_left; have wj := wli hlj (by have := b6s c i; omega); have hes := c4j o (gi, mi) hlj; obtain ⟨w, hw⟩ := ex_ ((nx c i)[j]); have hwm : w ∈ nx c i := (by rw [<- hw]; exact A5p hlj); have hw0 := (a7e hc hwm).1; have hwl := (a7e hc hwm).2.1; rw [hw] at hes; obtain ⟨⟨gj, mj⟩, hgj⟩ := ex_ (edsB o (gi, mi) ((nx c i).take j)); rw [hgj] at hes hel; rw [hgj]; dsimp only at hel ⊢; obtain ⟨x, hx⟩ : ∃ x, gj[w.toNat]? = some x := ⟨gj[w.toNat]'ya, A5n ya⟩; rw [g3q o gj mj hx] at hes; have hwlg : w.toNat < gj.length := ya; have hwi : w < (c.length : Int) := ya; have hs0 : gj.set w.toNat (xV x o 0) = gj := c3c hx)
  | (refine yi ?_; refine a0e (σ := {v : Nat // v <= N}) (fun y => [(11, .bool (mj || fV x o y.1)), (16, .int .i64 (y.1 : Int))]) [] (fun y => []) [] (fun y => []) (fun y => famB (gj.set w.toNat (xV x o y.1))) (fun y => N - y.1) ⟨0, by simp⟩ z1q ?_; rintro ⟨v, hv2⟩; simp only [lpS, LPXB]; (try dsimp only at hv2); rcases a0c hv2 with hlv | ⟨hlv, e⟩; rotate_left; have e2 := e.symm; clear e; subst e2; rotate_left; have wv := wli hlv ya; have hfs := fun L => e8p (L := L) (B := noH) hwlg (xV x o v); have hbx : (a0k (bvL (xV x o v)))[v]? = some [.bool (x.getLsbD v)] := (by rw [bvb _ hlv, b5x _ _ hlv, if_neg (Nat.lt_irrefl v)]); have hbo := bvb o hlv; cases hxv : x.getLsbD v; rw [hxv] at hbx; have hn := xV_n (x := x) (o := o) hlv (by simp [hxv]); rotate_left; rw [hxv] at hbx; cases hov : o.getLsbD v; rw [hov] at hbo; have hy := xV_y hlv hxv hov; have hbm := bvm hlv hxv hov; have hup := fun L => e8o (L := L) (B := noH) hwlg (xV x o v) (xV x o (v + 1)); rotate_left; rw [hov] at hbo; have hn := xV_n (x := x) (o := o) hlv (by simp [hxv, hov]))
  | (refine yi ?_; refine a0e (σ := {k : Nat // k <= c.length}) (fun y => [(17, .int .i64 (y.1 : Int))]) [] (fun y => []) [] (fun y => [([64], .cells 37 1 (rowH c y.1 N))]) (fun y => famB g) (fun y => c.length - y.1) ⟨0, by simp⟩ (gk5S [] (by simp [*, c3c, c8q, b5s]) (b0s _) (fun _ h => h.elim) zm zm yy zm zm zm) ?_; rintro ⟨k, hk2⟩; simp only [lpS, LPXB]; (try dsimp only at hk2); rcases cl2 hk2 ya with ⟨hkl, wk⟩ | ⟨hkl, rfl⟩; have tH := d5a (nm := nm) (pa := pa) (rg := rg) hc hkl; have hra := f3m (N := N) hc hkl; have hrm := g0d (N := N) hkl; have hh := b2o c k; have hhl : hd c k < c.length := ya; have hrg2 : ∀ h, (rowH c k N)[hd c k]'h = [FV.sl [63, hd c k] 1 0 N] := fun h => (by have := hra; rw [A5n h] at this; exact A5o this))
  | ((with_reducible refine f0c (A1 := [PA p, .int .i64 f, .int .i64 i, .list 1 (a0k (bvL (gi[i]'ya)))]) (A2 := [PA p, .int .i64 f, .int .i64 i, .list 1 (a0k (bvL (gi[i]'ya)))]) 8 tA ?_ z2f ?_); (focus (simp [frzs, frz, a9w, hfm, HPXB, nl, nls, NLXB, a0u, a8o, a2b, f1a]; done)))
  | (refine ye ?_; refine a0b (⟨v + 1, by omega⟩) z1q yf)
  | (refine ye ?_; refine a0b (⟨j + 1, by omega⟩) z1q yf)
  | (refine ye ?_; refine a0b (⟨k + 1, by omega⟩) (gk5S [] (by simp [*, c3c, c8q, b5s]) (b0s _) (fun _ h => h.elim) zm zm yy zm zm zm) yf)
  | (refine ye ?_; refine a0b (⟨v + 1, by omega⟩) (gk5S [] rfl (b0s _) (fun _ h => h.elim) zm zm yy zm zm zm) yf)
  | (refine ye ?_; refine a0b ⟨k + 1, by omega⟩ (g8j (s) k [62] [] hgk (by simp only [hgs]) (fun _ h => h) z4j z4j yy z37 z37 z37) z37)
  | (refine ye ?_; refine a0b (⟨i + 1, by omega⟩) z1q yf)
  | (refine ye ?_; refine a0b (⟨rndR c g c.length, hgo.1⟩) z1q (by exact hgo.2))
  | with_reducible first | refine a0n (id := 20) 8 a0d yc fun K hK => ?_ | refine a0n (id := 12) 14 a0d yc fun K hK => ?_ | refine z2k ?_ | refine stpK ?_; intro K hK | refine stpC ?_; intro T E hT hE | refine stp2 ?_ ?_ <;> intro h | refine cpG tRe ?_ | refine cpG tN ?_ | refine cpG tH ?_ | refine yg ?_; clear hK K | refine yh ?_; clear hT hE T E
  | simp [*, -List.all_flatten, -List.all_eq_true, yl, asR, a0q, FnD.row, Ins.row, wa, a1w, a0i, a2b, a1k, a1r, FV.cellV, b5c, a6x, b2c, b1o, b1t, c8p, f3n, g0c, f3p, f3l]
 all_goals (clear tRe hs1 hs2 hs3 hs4 hs5 hs6; trace_state)
def rwI (a b : List Bool) (v : Nat) : List Int := ((List.range v).filter fun j => a.getD j false && b.getD j false).map fun j : Nat => (j : Int)
theorem g6t (a b : List Bool) : rwI a b 0 = [] := rfl
theorem g0a (a b : List Bool) (v : Nat) : (rwI a b v).length <= v := by
 unfold rwI
 rw [A1l]
 exact A0a (A3y _ _) yd
theorem g6s {a b : List Bool} (ha : v < a.length) (hb : v < b.length) (h1 : a[v] = true) (h2 : b[v] = true) : rwI a b v ++ [(v : Int)] = rwI a b (v + 1) := by
 unfold rwI
 rw [A1p, A5x, A1s]
 simp [A5m, ha, hb, h1, h2]
theorem f9z {a b : List Bool} (ha : v < a.length) (hb : v < b.length) (h : ¬ (a[v] = true /\ b[v] = true)) : rwI a b (v + 1) = rwI a b v := by
 unfold rwI
 rw [A1p, A5x, A1s]
 have : (a[v] && b[v]) = false := by
  cases h1 : a[v] <;> cases h2 : b[v] <;> simp_all
 simp [A5m, ha, hb, this]
theorem f3i (hN : N <= 64) {M g : BitVec 64} {h : BitVec N} (hh : ∀ v, v < N -> h.getLsbD v = g.getLsbD v) (hg : ∀ v, v < 64 -> g.getLsbD v = true -> v < N) : rwI (b64 N M) (bvL h) N = a4s (g &&& M) := by
 unfold rwI a4s
 congr 1
 have e : List.range 64 = List.range N ++ (List.range (64 - N)).map (N + ·) := by
  rw [<- List.range_add]; congr 1; omega
 rw [e, A5x]
 have e2 : ((List.range (64 - N)).map (N + ·)).filter (fun v => (g &&& M).getLsbD v) = [] := by
  rw [A4w]
  intro v hv
  obtain ⟨w, hw, rfl⟩ := A1t.1 hv
  have := A2k.1 hw
  intro hb
  rw [A1k, A5t] at hb
  have := hg (N + w) ya hb.1
  omega
 rw [e2, A3x]
 refine List.filter_congr fun v hv => ?_
 have hv := A2k.1 hv
 rw [A5m, A5m, A5n (by rw [b3x]; exact hv), A5n z35, c4u, b2y, A1k, hh v hv, Bool.and_comm]
 rfl
def outR (HL : List (List Int)) (n i : Nat) : List (List FV) := lays (HL.take i) ++ List.replicate (n - i) [.nils]
def outS (HL : List (List Int)) (n i : Nat) (l : FM.Loc) (k : Nat) : List (List FV) := (outR HL n i).set i [.sl l 1 0 k]
theorem a3s (hl : HL.length = n) (h : i <= n) : (outR HL n i).length = n := by
 simp [outR, a0t]; omega
theorem a8c (hl : HL.length = n) (h : i <= n) (l : FM.Loc) (k : Nat) : (outS HL n i l k).length = n := by
 rw [outS, A0h, a3s hl h]
theorem b6p (HL : List (List Int)) (n : Nat) : outR HL n 0 = List.replicate n [FV.nils] := by simp [outR, lays]
theorem e4w (hl : HL.length = n) : outR HL n n = lays HL := by
 rw [outR, A6a ya]; simp
theorem f4k (hl : HL.length = n) (h : i < n) (l : FM.Loc) (k : Nat) : (outS HL n i l k)[i]? = some [.sl l 1 0 k] := by
 rw [outS, List.getElem?_set_self (by rw [a3s hl ya]; exact h)]
theorem g1g (l : FM.Loc) (k : Nat) (h : i < (outS HL n i l k).length) : (outS HL n i l k)[i] = [.sl l 1 0 k] := by
 simp [outS]
theorem f4j (l l2 : FM.Loc) (k k2 : Nat) : (outS HL n i l k).modify i (fun r => FV.sl l2 1 0 k2 :: r.tail) = outS HL n i l2 k2 := by
 refine A0e (by simp [outS]) fun j h1 h2 => ?_
 rw [A2w]
 split
 . rename_i e; subst e; simp [outS]
 . rename_i e; simp [outS, A1e, e]
theorem a3w (HL : List (List Int)) (n i : Nat) : nlss (outR HL n i) = true := by
 unfold outR
 rw [a1j, a1a, a4n]; rfl
theorem b6l {β : FM.Loc -> Option FM.Loc} {r : List FV} : ∀ (L : List (List FV)) (i : Nat), renss β (L.set i r) = (renss β L).set i (rens β r)
 | [], _ => rfl
 | a :: L, 0 => rfl
 | a :: L, i + 1 => by
   show rens β a :: renss β (L.set i r) = rens β a :: (renss β L).set i _
   rw [b6l L i]
theorem a5s {l2 : FM.Loc} (h : β l = some l2) : renss β (outS HL n i l k) = outS HL n i l2 k := by
 rw [outS, b6l, a6y (a3w _ _ _), outS]; simp [rens, ren, h]
theorem c9d (hl : HL.length = n) (hi : i < n) : (outR HL n i)[i]? = some [.nils] := by
 unfold outR
 rw [A0k z1m]
 simp [a0t, A2o]; omega
theorem a4v (hl : HL.length = n) (hi : i < n) (h : β l = none) : renss β (outS HL n i l k) = outR HL n i := by
 rw [outS, b6l, a6y (a3w _ _ _)]
 have e : (outR HL n i)[i]'(by rw [a3s hl ya]; exact hi) = [.nils] := by
  have := c9d hl hi
  rw [A5n (by rw [a3s hl ya]; exact hi)] at this
  exact A5o this
 rw [show rens β [.sl l 1 0 k] = [FV.nils] by simp [rens, ren, h], <- e, A2q]
theorem c3o : ∀ {L : List (List FV)} {r : List FV}, nlss L = true -> r ∈ L -> nls r = true
 | a :: L, r, h, hr => by
   simp only [nlss, A5t] at h
   rcases A0m.1 hr with rfl | hr
   . exact h.1
   . exact c3o h.2 hr
theorem d3b {β : FM.Loc -> Option FM.Loc} {L : LF} {B A : Heap} {HL : List (List Int)} {n i : Nat} {l : FM.Loc} {k : Nat} (hu : HP L B A l ≠ none) (h : (β l).isSome = true \/ k = 0) : a3z β (inH (HP L B A)) (outS HL n i l k) := a9t fun r hr => by
 rcases A2p hr with h1 | rfl
 . have h2 := a3w HL n i
   exact a8i (c3o h2 h1)
 . exact ⟨⟨hu, h⟩, trivial⟩
theorem d0j {l : FM.Loc} {sz : Nat} {xs : List (List FV)} {r : List FV} : ∀ (L : List (List FV)) (i : Nat), fzss l sz xs (L.set i r) = (fzss l sz xs L).set i (fzs l sz xs r)
 | [], _ => rfl
 | a :: L, 0 => rfl
 | a :: L, i + 1 => by
   show fzs l sz xs a :: fzss l sz xs (L.set i r) = fzs l sz xs a :: (fzss l sz xs L).set i _
   rw [d0j L i]
theorem d9q {row : List Int} (hl : HL.length = n) (hi : i < n) (hk : row.length = k) (hr : HL[i]'ya = row) : fzss l 1 (ints row) (outS HL n i l k) = outR HL n (i + 1) := by
 subst hk
 rw [outS, d0j, c1m (a3w _ _ _)]
 have e : fzs l 1 (ints row) [.sl l 1 0 row.length] = [.list 1 (ints row)] := by
  simp [fzs, fz, a0o, a1d, A6a]
 rw [e]
 refine A4c fun j => ?_
 rw [A3f]
 have hlen := a3s hl (A2e hi)
 unfold outR at hlen ⊢
 rcases A3e i j with h | h | h
 . rw [if_neg ya, A0k z1m, A0k z1m]
   simp only [a0t, A0j, A2o]
   by_cases h3 : j < n
   . rw [if_pos ya, if_pos ya]
   . rw [if_neg ya, if_neg ya]
 . subst h
   rw [if_pos rfl, if_pos (by rw [hlen]; exact hi), A0f z1m]
   rw [A5n z1m, a9p]
   simp [a0v, hr]
 . rw [if_neg ya, A0f z1m, A0f z1m]
   rw [A5n z1m, A5n z1m, a9p, a9p]
   simp
theorem g2r (hv : a0m p = true) (hF : FOk p f nm pa rg c) (hi : i < c.length) (h64 : v < 64) (h : ((hdG 64 c).getD i 0).getLsbD v = true) : v < p.gl.length := by
 obtain ⟨j, hj⟩ := (((c1h hi h64).1 h)).used hF.hc
 have := f1x hv hF j
 omega
theorem e6e (hv : a0m p = true) (hF : FOk p f nm pa rg c) (hN : p.gl.length = N) (x : Pts) (h : i < (a5n p x c).length) (h2 : i < (hdG N c).length) : (a5n p x c)[i] = rwI (b64 N (a7i p x)) (bvL (hdG N c)[i]) N := by
 have hN64 : N <= 64 := by rw [<- hN]; exact b9i hv
 have hi : i < c.length := by rwa [b2n] at h
 have e1 : (hdG 64 c)[i]'z2h = (hdG 64 c).getD i 0 := by rw [A5m, A5n z2h]; rfl
 have e2 : (hdG N c)[i] = (hdG N c).getD i 0 := by rw [A5m, A5n h2]; rfl
 rw [c1g h, e1, e2]
 refine (f3i hN64 (fun v hv' => g2q hN64 hi hv') fun v h64 hb => ?_).symm
 rw [<- hN]; exact g2r hv hF hi h64 hb
noncomputable def hlI (p : Pg) (fn : Int) : List (List Int) := if h : a0m p = true /\ 0 <= fn /\ fn < (p.fu.length : Int) then a5n p (lfpP p) (p.fu[fn.toNat]'ya).code else []
theorem d8v (hv : a0m p = true) (hf : f < p.fu.length) : hlI p (f : Int) = a5n p (lfpP p) (p.fu[f]).code := by
 unfold hlI
 rw [dif_pos ⟨hv, by omega, by omega⟩]; rfl
theorem c6f (h : ¬ (a0m p = true /\ 0 <= fn /\ fn < (p.fu.length : Int))) : hlI p fn = [] := by
 unfold hlI
 rw [dif_neg h]
def z2j := cj @d3b (cj @g6t (cj @a1z (cj @b5j @a0i)))
theorem bvE {b : Bool} (h : x.getLsbD i = b) : ∀ hh, x[i]'hh = b := fun hh => by rw [<- BitVec.getLsbD_eq_getElem]; exact h
theorem f2w (hb : PgB p) (hv : a0m p = true) (hN : p.gl.length = N) : Pq 44 [PA p] (.list 1 (a0k (b64 N (a7i p (lfpP p))))) := by
 have hN64 : N <= 64 := by rw [<- hN]; exact b9i hv
 have hp := vOk hv
 have hnf := hp.nf
 have hX := (c3w hv).form
 have hXl : ∀ f (h : f < (lfpP p).regs.length), ∀ s ∈ (lfpP p).regs[f], s.length <= 1000000000 := fun f h s hs => A0a (g1i (hX.rs f h s hs)) (A0a (a0h hp) yb)
 have tAn := c5h hb hv
 generalize lfpP p = X at hX hXl tAn ⊢
 have hs3 : (N : Int) <= 4611686018427387904 := by omega
 have hs4 : (N : Int) <= 281474976710656 := by omega
 refine yq Tryz.f44 [.tmp 2] 11 107 [] 0 ?_
 repeat' first
  | (refine yi ?_; refine a0e (σ := {v : Nat // v <= N}) (fun y => [(4, .int .i64 (y.1 : Int))]) [] (fun y => []) [] (fun y => [([0, 14], .cells 4 1 (a0k (rpB N y.1 true)))]) (fun y => noH) (fun y => N - y.1) ⟨0, by simp⟩ (gk3 (j := 0) [] (Bs.pc _) zg zg zg zg zg zg zg) ?_; rintro ⟨v, hv2⟩; simp only [lpS, LPXB]; (try dsimp only at hv2); have hrl := d5t hv2 true; rcases a0c hv2 with hlv | ⟨hlv, e⟩; rotate_left; have e2 := e.symm; clear e; subst e2; have hre : rpB N N true = b64 N (dsF p 0) := (by rw [d5u]; exact (f7q hN64).symm); rotate_left; have wv := wli hlv ya; have hbm := a1b (rpB N v true) v true ya; rw [g0b hlv] at hbm)
  | (refine yi ?_; refine a0e (σ := {k : Nat // k <= p.fu.length /\ ∀ f (hf : f < p.fu.length), f < k -> ∀ i, ¬ badI X p.fu[f].code f i}) (fun y => [(6, .int .i64 (y.1 : Int)), (7, .undef), (8, .undef), (9, .undef), (10, .undef)]) [] (fun y => []) [] (fun y => [([0, 14], .cells 4 1 (a0k (b64 N (dsF p y.1))))]) (fun y => noH) (fun y => p.fu.length - y.1) ⟨0, by simp, fun f _ h => by simp at h⟩ (gk3 (j := 0) [] (Bs.pc _) zg zg zg zg zg zg zg) ?_; rintro ⟨k, hk, hnb⟩; simp only [lpS, LPXB]; (try dsimp only at hk hnb); rcases a0c hk with hlt | ⟨hlt, e⟩; rotate_left; have hfin : a7i p X = dsF p k := z4g; have hkl : ¬ (k : Int) < (p.fu.length : Int) := ya; rotate_left; have wk := wli hlt ya; have hkl : (k : Int) < (p.fu.length : Int) := ya; have hfs := f6o hlt; obtain ⟨⟨nm, pa, rgs, c⟩, hfd⟩ := ex_ (p.fu[k]); have hF := fok hv hlt hfd; rw [hfd] at hfs; dsimp only at hfs; have hc := hF.hc; have h1000 := hc.n1000; have hrn : X.regs.length = p.fu.length := hX.rn; have hkr : k < X.regs.length := ya; have hfl := hX.fn k hkr hlt; rw [hfd] at hfl; dsimp only at hfl; have tL := d4x hv hF hN; have hgl := a7f (N := N) c; obtain ⟨S0, hS0⟩ := ex_ (dsF p k); rw [hS0] at hfs; simp only [hS0]; rotate_left)
  | (refine yi ?_; refine a0e (σ := {i : Nat // i <= c.length /\ ∀ q, q < i -> ¬ badI X c k q}) (fun y => [(8, .int .i64 (y.1 : Int)), (9, .undef), (10, .undef)]) [] (fun y => []) [] (fun y => [([0, 14], .cells 4 1 (a0k (b64 N (dsK c S0 y.1))))]) (fun y => noH) (fun y => c.length - y.1) ⟨0, by simp, fun i h => by simp at h⟩ (gk3 (j := 0) [] (Bs.pc _) z29 z29 z29 z29 z29 z29 z29) ?_; rintro ⟨i, hi, hni⟩; simp only [lpS, LPXB]; (try dsimp only at hi hni); rcases a0c hi with hil | ⟨hil, e⟩; rotate_left; subst e; have hnb2 : ∀ f (hf : f < p.fu.length), f < k + 1 -> ∀ i, ¬ badI X p.fu[f].code f i := (fun f hf hfk i hb => by rcases A0r f k with h | h; exact hnb f hf h i hb; have e : f = k := ya; subst e; rw [hfd] at hb; exact hni i hb.1 hb); simp only [<- hfs]; rotate_left; have wi := wli hil ya; have hK : dsK c S0 (i + 1) = dsI c i (dsK c S0 i) := rfl; obtain ⟨S, hS⟩ := ex_ (dsK c S0 i); rw [hS] at hK; simp only [hS]; have hil2 : i < (hdG N c).length := ya; have huN := f1x hv hF i; rw [hN] at huN; have hcs := dscI hN64 hil huN S hil2; rw [<- hK] at hcs; clear hK; have tD := c8c hv hF hil; have hni2 : ¬ badI X c k i -> ∀ q, q < i + 1 -> ¬ badI X c k q := (fun h0 q hq => by rcases A0r q i with h | h; exact hni q h; have e : q = i := ya; subst e; exact h0); have hregs : lkO c[i].op = true -> 0 <= c[i].a /\ c[i].a.toNat < X.regs[k].length /\ c[i].a < (X.regs[k].length : Int) /\ ∀ h : c[i].a.toNat < X.regs[k].length, rg X k c[i].a = (X.regs[k])[c[i].a.toNat]'h := (fun hlk => by obtain ⟨ha0, ha1⟩ := e9w hv hF hil hlk; refine ⟨ha0, by omega, by omega, fun h => ?_⟩; exact e4l hkr h); obtain ⟨u, hu⟩ := ex_ (usC c i); rw [hu] at hcs huN tD; by_cases hl : lkO c[i].op = true; obtain ⟨r1, r2, r3, r4⟩ := hregs hl; have r4 := r4 r2; have hll := hXl k hkr _ (A5p r2); have tH := c5j ((X.regs[k])[c[i].a.toNat]'r2) 0 hll; rw [<- r4] at tH hll; have hop : c[i].op = 39 \/ c[i].op = 40 := (by simpa [lkO] using hl); obtain ⟨q, hq⟩ := ex_ (hasI (rg X k c[i].a) 0); rw [hq, r4] at tH; have hbad : badI X c k i ↔ (u < 0 /\ q = true) := (by rw [<- hq, f5u]; exact ⟨fun h => ⟨by rw [<- hu]; exact h.2.2.1, h.2.2.2⟩, fun h => ⟨hil, hl, by rw [hu]; exact h.1, h.2⟩⟩); have hdb : badI X c k i -> a7i p X = 0 := (fun h => by unfold a7i; rw [if_pos ⟨k, hlt, i, by rw [hfd]; exact h⟩]); by_cases hu0 : u < 0; have hu1 : ¬ 0 <= u := ya; have hKS : dsK c S0 (i + 1) = S := (by rcases hcs with ⟨_, h⟩ | ⟨_, h, _⟩ | ⟨_, h, _⟩; exact h; exact absurd h hu1; exact absurd h hu1); cases q; have hnb' : ¬ badI X c k i := (fun h => by simpa using (hbad.1 h).2); rcases hop with ho | ho; rotate_left; rotate_left; have hd0 := hdb (hbad.2 ⟨hu0, rfl⟩); rcases hop with ho | ho; rotate_left; rotate_left; have hu1 : 0 <= u := ya; have hnb' : ¬ badI X c k i := (fun h => hu0 (hbad.1 h).1); rcases hcs with ⟨h1, hKS⟩ | ⟨h1, h2, h3, hKS⟩ | ⟨h1, h2, h3, hKS⟩; have ho40 : ¬ c[i].op = 40 := (fun h => h1 ⟨h, hu1⟩); have ho39 := hop.resolve_right ho40; rotate_left; have h3e := bvE h3; rotate_left; have h3e := bvE h3; have hbm2 := a1b (b64 N S) u.toNat false (by rw [b3x]; omega); rw [<- hKS] at hbm2; rotate_left; have ho39 : ¬ c[i].op = 39 := (fun h => hl (by rw [h]; rfl)); have ho40 : ¬ c[i].op = 40 := (fun h => hl (by rw [h]; rfl)); have hKS : dsK c S0 (i + 1) = S := (by rcases hcs with ⟨_, h⟩ | ⟨h, _⟩ | ⟨h, _⟩; exact h; exact absurd h ho40; exact absurd h ho40); have hnb' : ¬ badI X c k i := (fun h => hl h.2.1); rotate_left)
  | (refine ye ?_; refine a0b (⟨i + 1, by omega, hni2 z2d⟩) (gk3 (j := 0) [] (Bs.pc _) zg zg zg zg zg zg zg) yf)
  | (refine ye ?_; refine a0b (⟨k + 1, by omega, hnb2⟩) (gk3 (j := 0) [] (Bs.pc _) zg zg zg zg zg zg zg) yf)
  | (refine ye ?_; refine a0b (⟨v + 1, by omega⟩) (gk3 (j := 0) [] (Bs.pc _) ym ym ym ym ym ym ym) yf)
  | with_reducible first | refine a0n (id := 17) 14 a0d yc fun K hK => ?_ | refine z2k ?_ | refine stpK ?_; intro K hK | refine stpC ?_; intro T E hT hE | refine stp2 ?_ ?_ <;> intro h | refine cpG tAn ?_ | refine cpG tL ?_ | refine cpG tD ?_ | refine cpG tH ?_ | refine yg ?_; clear hK K | refine yh ?_; clear hT hE T E
  | simp [*, -List.all_flatten, -List.all_eq_true, yl, asR, a0q, FnD.row, Ins.row, wa, a1w, a0i, a2b, a1k, a1r, FV.cellV, d5v, a2f, a4x, a0t, c9r, a6r, g4l, h0a, b3x, c2f, e1t, a8o, b2y]
theorem g6n (hb : PgB p) (h : ¬ (a0m p = true /\ 0 <= fn /\ fn < (p.fu.length : Int))) : Pq 14 [PA p, .int .i64 fn] (.list 1 (lays [])) := by
 have hfb := hb.f
 have tV : Pq 39 [PA p] (.bool (a0m p)) := by rw [<- b4z]; exact c19 p hb.f hb.g hb.l hb.ll hb.c
 cases g1 : a0m p
 all_goals rw [g1] at tV
 all_goals by_cases g2 : fn < 0
 all_goals by_cases g3 : (p.fu.length : Int) <= fn
 all_goals first | (exfalso; exact h ⟨g1, by omega, by omega⟩) | skip
 all_goals clear h
 all_goals
  refine yq Tryz.f14 [.tmp 4] 12 74 [29, 28, 50, 49, 48] 0 ?_
  repeat' first
   | refine z2k ?_
   | (refine stpK ?_; intro K hK)
   | (refine stpC ?_; intro T E hT hE)
   | (refine stp2 ?_ ?_ <;> intro h)
   | refine cpG tV ?_
   | (refine yg ?_; clear hK K)
   | (refine yh ?_; clear hT hE T E)
   | simp [*, -List.all_flatten, -List.all_eq_true, yl, asR, a8g]
theorem f9r (hb : PgB p) (h : ¬ (a0m p = true /\ 0 <= fn /\ fn < (p.fu.length : Int))) : Pq 16 [PA p, .int .i64 fn] (.list 1 (lays [])) := by
 have hfb := hb.f
 have tV : Pq 17 [PA p] (.bool (a0m p)) := c21 p hb.f hb.g hb.l hb.ll hb.c
 cases g1 : a0m p
 all_goals rw [g1] at tV
 all_goals by_cases g2 : fn < 0
 all_goals by_cases g3 : (p.fu.length : Int) <= fn
 all_goals first | (exfalso; exact h ⟨g1, by omega, by omega⟩) | skip
 all_goals clear h
 all_goals
  refine yq Tryz.f16 [.tmp 4] 10 68 [] 0 ?_
  repeat' first
   | refine z2k ?_
   | (refine stpK ?_; intro K hK)
   | (refine stpC ?_; intro T E hT hE)
   | (refine stp2 ?_ ?_ <;> intro h)
   | refine cpG tV ?_
   | (refine yg ?_; clear hK K)
   | (refine yh ?_; clear hT hE T E)
   | simp [*, -List.all_flatten, -List.all_eq_true, yl, asR, a8g]
theorem bsW0 : BsW noH := ⟨⟨fun _ _ _ => rfl, fun l o h => by cases h⟩, rfl, rfl, fun l o h => by cases h⟩
theorem e3r (hb : PgB p) : Pq 15 [PA p] (PA p) := by
 have h := f2y hb bsW0
 rw [show HP [] noH noH = noH from e2n.symm] at h
 refine e2f (n := 10) h ?_
 simp [frz, frzs, c6j, nls, nl, a3j, a3k, a1a, a2a, a0t, b5p, a2x, A6a, HPXB]
end Go.Je
