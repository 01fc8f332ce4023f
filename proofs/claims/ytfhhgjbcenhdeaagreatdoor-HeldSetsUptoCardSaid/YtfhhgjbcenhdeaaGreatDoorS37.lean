/- Part. -/
import Derived.Test.YtfhhgjbcenhdeaaGreatDoorS36
set_option linter.all false
set_option maxRecDepth 100000
set_option maxHeartbeats 0
namespace Go.Je
open Go Go.FM Go.Gv Go.Proofs
variable {p : Pg}
theorem g6l (hb : PgB p) (hv : a0m p = true) {N : Nat} (hN : p.gl.length = N) {f : Nat} (hf : f < p.fu.length) : Pq 16 [PA p, .int .i64 f] (.list 1 (lays (a5n p (lfpP p) (p.fu[f]).code))) := by
 have hN64 : N <= 64 := by rw [<- hN]; exact b9i hv
 have tV : Pq 17 [PA p] (.bool (a0m p)) := c21 p hb.f hb.g hb.l hb.ll hb.c
 rw [hv] at tV
 have hfb := hb.f
 obtain ⟨⟨nm, pa, rg, c⟩, hfd⟩ := ex_ (p.fu[f])
 have hF := fok hv hf hfd
 rw [hfd]
 show Pq 16 [PA p, .int .i64 f] (.list 1 (lays (a5n p (lfpP p) c)))
 have h1000 := hF.hc.n1000
 have hfi : (f : Int) < (p.fu.length : Int) := by omega
 have hf0 : ¬ (f : Int) < 0 := by omega
 have hf1 : ¬ (p.fu.length : Int) <= (f : Int) := by omega
 have hgl := a7f (N := N) c
 have tL := d4x hv hF hN
 have tD := f2w hb hv hN
 have hHl := b2n p (lfpP p) c
 have hHL : ∀ i (h : i < (a5n p (lfpP p) c).length) (h2 : i < (hdG N c).length), (a5n p (lfpP p) c)[i] = rwI (b64 N (a7i p (lfpP p))) (bvL (hdG N c)[i]) N := fun i h h2 => e6e hv hF hN (lfpP p) h h2
 obtain ⟨HL, hHe⟩ := ex_ (a5n p (lfpP p) c)
 rw [hHe] at hHl hHL ⊢
 have hAl := b3x N (a7i p (lfpP p))
 obtain ⟨A, hA⟩ := ex_ (b64 N (a7i p (lfpP p)))
 rw [hA] at hHL hAl tD
 clear hHe hA
 have hs1 : (c.length : Int) <= 4611686018427387904 := by omega
 have hs2 : (c.length : Int) <= 281474976710656 := by omega
 have hs5 : 8 * (c.length : Int) <= 281474976710656 := by omega
 have hs6 : 24 * (c.length : Int) <= 281474976710656 := by omega
 refine yq Tryz.f16 [.tmp 4] 10 68 [] 0 ?_
 repeat' first
  | (refine yi ?_; refine a0e (σ := {i : Nat // i <= c.length}) (fun y => [(7, .sl [66] 1 0 c.length), (8, .int .i64 (y.1 : Int)), (9, .undef)]) [] (fun y => []) [[0, 31]] (fun y => [([66], .cells 36 1 (outR HL c.length y.1))]) (fun y => noH) (fun y => c.length - y.1) ⟨0, by simp⟩ (gk5S [([66], some [0, 31])] rfl c5pc l5pc z2l z2l yy z1n z1n z1n) ?_; rintro ⟨i, hi⟩; simp only [lpS, LPXB]; (try dsimp only at hi); have hol := a3s hHl hi; rcases a0c hi with hil | ⟨hil, e⟩; rotate_left; subst e; have hoe := e4w hHl; have htl2 : (lays HL).take c.length = lays HL := A6a (by rw [a0t]; omega); rotate_left; have wi := wli hil ya; have hil2 : i < (hdG N c).length := ya; have hrow := hHL i ya hil2; have hon := c9d hHl hil; obtain ⟨B, hB⟩ := ex_ ((hdG N c)[i]); rw [hB] at hrow; have hBl := a8o B)
  | (refine yi ?_; refine a0e (σ := {v : Nat // v <= N}) (fun y => [(9, .int .i64 (y.1 : Int))]) [] (fun y => []) [] (fun y => [([66], .cells 36 1 (outS HL c.length i [65] (rwI A (bvL B) y.1).length)), ([65], .cells 3 1 (ints (rwI A (bvL B) y.1)))]) (fun y => noH) (fun y => N - y.1) ⟨0, by simp⟩ (gk5S [([65], none)] rfl c5pc l5pc z2l z2l yy z1n z1n z1n) ?_; rintro ⟨v, hv2⟩; simp only [lpS, LPXB]; (try dsimp only at hv2); have hrl := g0a A (bvL B) v; have hoa := f4k hHl hil [65] (rwI A (bvL B) v).length; have hol2 := a8c hHl (A2e hil) [65] (rwI A (bvL B) v).length; have hom := fun l k => f4j (HL := HL) (n := c.length) (i := i) [65] l (rwI A (bvL B) v).length k; rcases cl2 hv2 ya with ⟨hlv, wv⟩ | ⟨hlv, rfl⟩; have hva : v < A.length := ya; have hvb : v < (bvL B).length := ya; have hga : (a0k A)[v]? = some [.bool A[v]] := a1l hva; have hgb : (a0k (bvL B))[v]? = some [.bool (bvL B)[v]] := a1l hvb; have hbi := e1t (g := hdG N c) (i := i) (by rw [c2f]; exact hil2); cases hav : A[v]; rw [hav] at hga; have hs := f9z hva hvb (by simp [hav]); rotate_left; rw [hav] at hga; cases hbv : (bvL B)[v]; rw [hbv] at hgb; have hs := f9z hva hvb (by simp [hbv]); rotate_left; rw [hbv] at hgb; have hs := g6s hva hvb hav hbv; have hsi : ints (rwI A (bvL B) v) ++ [[.int .i64 (v : Int)]] = ints (rwI A (bvL B) (v + 1)) := (by rw [<- hs, a2u]; rfl); obtain ⟨s1, s2⟩ := s8 (A0a hrl ya); have hsl : (rwI A (bvL B) (v + 1)).length = (rwI A (bvL B) v).length + 1 := (by rw [<- hs]; simp); rotate_left)
  | (refine ye ?_; refine a0b (⟨v + 1, by omega⟩) (gk5S [([65], some [0, 65])] rfl c5pc l5pc z4k z4k yy z3w z3w z3w) yf)
  | (refine ye ?_; refine a0b (⟨v + 1, by omega⟩) (gk5S [] rfl c5pc l5pc z2l z2l yy z1n z1n z1n) yf)
  | (refine ye ?_; refine a0b ⟨i + 1, by omega⟩ (Gk.trans (gk5S [] rfl c5pc l5pc y0 y0 yy z3x z3x z3x) (b9j [65] 3 1 (ints HL[i]) c5pc (fun _ h => h.elim) (by simp [*, SIMB, z0v, a0q, fz, fzs, fzss, fzO, fzT, fze, z0y]) (by simp [*, SIMB, a0q, fz, fzs, fzss, fzO, fzT, fze, z0y, a4n, b6p, a3s hHl, a8c hHl, a3w, a5s, a4v hHl, z2j]) z36)) yf)
  | refine z2k ?_
  | (refine stpK ?_; intro K hK)
  | (refine stpC ?_; intro T E hT hE)
  | (refine stp2 ?_ ?_ <;> intro h)
  | refine cpG tV ?_
  | refine cpG tL ?_
  | refine cpG tD ?_
  | (refine yg ?_; clear hK K)
  | (refine yh ?_; clear hT hE T E)
  | simp [*, -List.all_flatten, -List.all_eq_true, yl, asR, a0q, FnD.row, wa, a1w, a0i, a2b, FV.cellV, c2f, e1t, b5j, b6p, g1g, a3s, PFin, c6j, a1a]
theorem g6m (hb : PgB p) (fn : Int) : Pq 14 [PA p, .int .i64 fn] (.list 1 (lays (hlI p fn))) := by
 by_cases h : a0m p = true /\ 0 <= fn /\ fn < (p.fu.length : Int)
 . obtain ⟨f, rfl⟩ : ∃ f : Nat, fn = (f : Int) := ⟨fn.toNat, by omega⟩
   rw [d8v h.1 ya]
   exact t_In hb h.1 ya
 . rw [c6f h]; exact g6n hb h
theorem f9q (hb : PgB p) (fn : Int) : Pq 16 [PA p, .int .i64 fn] (.list 1 (lays (hlI p fn))) := by
 by_cases h : a0m p = true /\ 0 <= fn /\ fn < (p.fu.length : Int)
 . obtain ⟨f, rfl⟩ : ∃ f : Nat, fn = (f : Int) := ⟨fn.toNat, by omega⟩
   rw [d8v h.1 ya]
   exact g6l hb h.1 rfl ya
 . rw [c6f h]; exact f9r hb h
theorem g2o (p : Pg) (fn : Int) : (hlI p fn).length <= 1000000000 /\ ∀ i (h : i < (hlI p fn).length), (hlI p fn)[i].length <= 1000000000 := by
 by_cases h : a0m p = true /\ 0 <= fn /\ fn < (p.fu.length : Int)
 . obtain ⟨f, rfl⟩ : ∃ f : Nat, fn = (f : Int) := ⟨fn.toNat, by omega⟩
   have hf : f < p.fu.length := by omega
   obtain ⟨⟨n0, pa, rgs, c⟩, hfd⟩ := ex_ (p.fu[f])
   have hF := fok h.1 hf hfd
   have h1000 := hF.hc.n1000
   rw [d8v h.1 hf, hfd]
   refine ⟨by rw [b2n]; show c.length <= _; omega, fun i hi => ?_⟩
   rw [c1g hi]
   exact A0a (c4t _) yb
 . rw [c6f h]; exact ⟨A2a _, fun i hi => absurd hi yd⟩
theorem f2p {a : List (List Int)} (h1 : a.length <= 1000000000) (h2 : ∀ i (h : i < a.length), a[i].length <= 1000000000) : Pq 13 [.list 1 (lays a), .list 1 (lays a)] (.bool true) := by
 refine yq Tryz.f13 [.tmp 4] 6 27 [] 0 ?_
 repeat' first
  | (refine yi ?_; refine a0e (σ := {i : Nat // i <= a.length}) (fun y => [(5, .int .i64 (y.1 : Int))]) [] (fun y => []) [] (fun y => []) (fun y => noH) (fun y => a.length - y.1) ⟨0, by simp⟩ yt ?_; rintro ⟨i, hi⟩; simp only [lpS, LPXB]; (try dsimp only at hi); rcases cl2 hi ya with ⟨hli, wi⟩ | ⟨hli, rfl⟩; have tI := d4z a[i] a[i] (h2 i hli); rw [decide_eq_true rfl] at tI)
  | (refine ye ?_; refine a0b (⟨i + 1, by omega⟩) yt yf)
  | with_reducible first | refine a0n (id := 6) 10 a0d yc fun K hK => ?_ | refine z2i ?_ | refine stpK ?_; intro K hK | refine stpC ?_; intro T E hT hE | refine stp2 ?_ ?_ <;> intro h | refine cpG tI ?_ | refine yg ?_; clear hK K | refine yh ?_; clear hT hE T E
  | simp [*, -List.all_flatten, -List.all_eq_true, yl, asR, a0q, a9p, a0v]
theorem d2g (hb : PgB p) (fn : Int) : Pq 3 [PA p, .int .i64 fn] (.bool true) := by
 have hg := f2i p hb.f hb.c
 have tC := e3r hb
 have tI := g6m hb fn
 have tR := f9q hb fn
 obtain ⟨hz1, hz2⟩ := g2o p fn
 have tS := f2p hz1 hz2
 cases g1 : d9g p
 all_goals rw [g1] at hg
 all_goals
  refine yq Tryz.f3 [.tmp 4] 5 19 [] 0 ?_
  repeat' first
   | with_reducible first | refine a0n (id := 3) 12 a0d yc fun K hK => ?_ | refine z2k ?_ | refine stpK ?_; intro K hK | refine stpC ?_; intro T E hT hE | refine stp2 ?_ ?_ <;> intro h | refine cpG f2m ?_ | refine cpG hg ?_ | refine cpG tC ?_ | refine cpG tI ?_ | refine cpG tR ?_ | refine cpG tS ?_ | refine yg ?_; clear hK K | refine yh ?_; clear hT hE T E
   | simp [*, -List.all_flatten, -List.all_eq_true, yl, asR]
end Go.Je
