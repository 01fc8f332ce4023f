/- Parts of the proof. -/
import Derived.Test.YtfhhgjbcenhdeaaR20
set_option linter.unusedSimpArgs false
set_option linter.unusedVariables false
namespace Go.He
open Go Go.FM Go.Gv Go.Proofs
set_option maxRecDepth 100000
set_option maxHeartbeats 40000000
def wrI (x : Pts) (o : Int) (i : Nat) (n : Ins) : Prop := ((n.op = 34 \/ n.op = 36) /\ o ∈ rg x i n.a) \/ ((n.op = 37 \/ n.op = 38) /\ o ∈ rg x i n.b)
def noW (p : Pg) (x : Pts) (o : Int) (i j : Nat) : Prop := ∀ i' (h : i' < p.funcs.length) j' (h' : j' < p.funcs[i'].code.length), i' < i \/ (i' = i /\ j' < j) -> ¬ wrI x o i' p.funcs[i'].code[j']
theorem f0b (p : Pg) (x : Pts) (o : Int) : noW p x o 0 0 := fun _ _ _ _ h => by omega
theorem e9z {p : Pg} {x : Pts} {o : Int} {i j : Nat} (h : noW p x o i j) (hi : i < p.funcs.length) (hj : j < p.funcs[i].code.length) (hn : ¬ wrI x o i p.funcs[i].code[j]) : noW p x o i (j + 1) := fun i' h1 j' h2 h3 => by
 by_cases e : i' = i /\ j' = j
 . obtain ⟨rfl, rfl⟩ := e; exact hn
 . exact h i' h1 j' h2 (by omega)
theorem f0a {p : Pg} {x : Pts} {o : Int} {i : Nat} (hi : i < p.funcs.length) (h : noW p x o i p.funcs[i].code.length) : noW p x o (i + 1) 0 := fun i' h1 j' h2 h3 => by
 by_cases e : i' = i
 . subst e; exact h i' h1 j' h2 (.inr ⟨rfl, h2⟩)
 . exact h i' h1 j' h2 (by omega)
theorem b8j {p : Pg} {x : Pts} {o : Int} {i j : Nat} (hi : i < p.funcs.length) (hj : j < p.funcs[i].code.length) (h : wrI x o i p.funcs[i].code[j]) : wrR p x o = true := by
 simp only [wrR, decide_eq_true_eq]
 exact ⟨i, hi, _, List.getElem_mem hj, h⟩
theorem e2r {p : Pg} {x : Pts} {o : Int} (h : noW p x o p.funcs.length 0) : wrR p x o = false := by
 simp only [wrR, decide_eq_false_iff_not]
 rintro ⟨i, hi, n, hn, hw⟩
 obtain ⟨j, hj, rfl⟩ := List.getElem_of_mem hn
 exact h i hi j hj (.inl hi) hw
theorem wr5 (n : Int) : n = 34 \/ (¬ n = 34 /\ n = 36) \/ (¬ n = 34 /\ ¬ n = 36 /\ n = 37) \/ (¬ n = 34 /\ ¬ n = 36 /\ ¬ n = 37 /\ n = 38) \/ (¬ n = 34 /\ ¬ n = 36 /\ ¬ n = 37 /\ ¬ n = 38) := by omega
theorem d3c {l : List Int} {n : Int} (h : hasI l n = true) : n ∈ l := by simpa [hasI] using h
theorem c6w {l : List Int} {n : Int} (h : hasI l n = false) : n ∉ l := by simpa [hasI] using h
theorem e9i (x : Pts) {f : Nat} (a : Int) (h : f < x.regs.length) (h' : a.toNat < x.regs[f].length) : rg x f a = x.regs[f][a.toNat] := by simp [rg, List.getD_eq_getElem?_getD, h, h']
theorem a4i {p : Pg} {x : Pts} (hx : Gv.Form p x) {i : Nat} (hi : i < p.funcs.length) {a : Int} (ha : isR p.funcs[i] a) : ∃ (h1 : i < x.regs.length) (h2 : a.toNat < x.regs[i].length), 0 <= a /\ a < (x.regs[i].length : Int) /\ rg x i a = x.regs[i][a.toNat] /\ okS (a0d p).length x.regs[i][a.toNat] := by
 have h1 : i < x.regs.length := by rw [hx.rn]; exact hi
 have h3 := hx.fn i h1 hi
 obtain ⟨a0, a1⟩ := ha
 have h2 : a.toNat < x.regs[i].length := by omega
 exact ⟨h1, h2, a0, by omega, e9i x a h1 h2, hx.rs i h1 _ (List.getElem_mem h2)⟩
theorem a5t {p : Pg} (hp : VOk p) {i j : Nat} (hi : i < p.funcs.length) (hj : j < p.funcs[i].code.length) (h : (rR p.funcs[i].code[j].op).1 = 100 \/ (rR p.funcs[i].code[j].op).1 = 114) : isR p.funcs[i] p.funcs[i].code[j].a :=
 a4l (hp.ins _ (List.getElem_mem hi) _ (List.getElem_mem hj)).a h
theorem a8c {p : Pg} (hp : VOk p) {i j : Nat} (hi : i < p.funcs.length) (hj : j < p.funcs[i].code.length) (h : (rR p.funcs[i].code[j].op).2.1 = 100 \/ (rR p.funcs[i].code[j].op).2.1 = 114) : isR p.funcs[i] p.funcs[i].code[j].b :=
 a4l (hp.ins _ (List.getElem_mem hi) _ (List.getElem_mem hj)).b h
theorem a6w {n : Nat} {l : List Int} (h : okS n l) : l.length <= n := b1l h.1 h.2
theorem b6o {p : Pg} (hp : VOk p) {x : Pts} (hx : Gv.Form p x) (o : Int) : PC Try.prog Gl 65 [.agg [.list 4 (fns p.funcs), .list 2 (gbs p.globals), .list 1 (lays p.layouts), .int .i64 p.main], .agg [.list 2 (sits x.sites), .list 1 (lls x.regs), .list 1 (lays x.cells)], .int .i64 o] (.bool (wrR p x o)) := by
 have hsv := a2b hp
 refine a3w (res := [.tmp 6]) 10 67 [38] (fun d ix => 0 :: d :: ix) (fn := Try.f65) (by kernel_rfl) (by rfl) (by rfl) (by rfl) (by simp) (by decide) ?_
 repeat' first
  | ((with_reducible refine a1o ?_); refine a2h (σ := {i : Nat // i <= p.funcs.length /\ noW p x o i 0}) (fun y => [(7, .int .i64 (y.1 : Int)), (8, .undef), (9, .undef)]) [] (fun y => []) [] (fun y => []) (fun y => noH) (fun y => p.funcs.length - y.1) ⟨0, by simp, f0b p x o⟩ (gk3 (j := 0) [] (Bs.pc _) ?_ ?_ ?_ ?_ ?_ ?_ ?_) ?_; (iterate 7 (focus (first | rfl | (simp [LPXB, *, SIMB, hdN, injB]; done)))); rintro ⟨i, hi, hk⟩; simp only [lpS, LPXB]; (try dsimp only at hi hk); rcases a1l hi with hlt | ⟨hlt, rfl⟩; have wi := wli hlt (by have := hp.nf; omega); have hcv := b8v hp hlt)
  | ((with_reducible refine a1o ?_); refine a2h (σ := {j : Nat // j <= (p.funcs[i]'hlt).code.length /\ noW p x o i j}) (fun y => [(8, .int .i64 (y.1 : Int)), (9, .undef)]) [] (fun y => []) [] (fun y => []) (fun y => noH) (fun y => (p.funcs[i]'hlt).code.length - y.1) ⟨0, by simp, hk⟩ (gk3 (j := 0) [] (Bs.pc _) ?_ ?_ ?_ ?_ ?_ ?_ ?_) ?_; (iterate 7 (focus (first | rfl | (simp [LPXB, *, SIMB, hdN, injB]; done)))); rintro ⟨j, hj, hkj⟩; simp only [lpS, LPXB]; (try dsimp only at hj hkj); rcases a1l hj with hlk | ⟨hlk, rfl⟩; have wk := wli hlk (by omega); rcases wr5 ((p.funcs[i]'hlt).code[j]'hlk).op with q1 | ⟨q1, q2⟩ | ⟨q1, q2, q3⟩ | ⟨q1, q2, q3, q4⟩ | ⟨q1, q2, q3, q4⟩; (have hra := a5t hp hlt hlk (by rw [q1]; decide); obtain ⟨r1, r2, r3, r4, r5, r6⟩ := a4i hx hlt hra; have hh := d6k _ o (Nat.le_trans (a6w r6) (by omega)); cases hc : hasI ((x.regs[i]'r1)[((p.funcs[i]'hlt).code[j]'hlk).a.toNat]'r2) o <;> rw [hc] at hh); rotate_left; rotate_left; (have hra := a5t hp hlt hlk (by rw [q2]; decide); obtain ⟨r1, r2, r3, r4, r5, r6⟩ := a4i hx hlt hra; have hh := d6k _ o (Nat.le_trans (a6w r6) (by omega)); cases hc : hasI ((x.regs[i]'r1)[((p.funcs[i]'hlt).code[j]'hlk).a.toNat]'r2) o <;> rw [hc] at hh); rotate_left; rotate_left; (have hra := a8c hp hlt hlk (by rw [q3]; decide); obtain ⟨r1, r2, r3, r4, r5, r6⟩ := a4i hx hlt hra; have hh := d6k _ o (Nat.le_trans (a6w r6) (by omega)); cases hc : hasI ((x.regs[i]'r1)[((p.funcs[i]'hlt).code[j]'hlk).b.toNat]'r2) o <;> rw [hc] at hh); rotate_left; rotate_left; (have hra := a8c hp hlt hlk (by rw [q4]; decide); obtain ⟨r1, r2, r3, r4, r5, r6⟩ := a4i hx hlt hra; have hh := d6k _ o (Nat.le_trans (a6w r6) (by omega)); cases hc : hasI ((x.regs[i]'r1)[((p.funcs[i]'hlt).code[j]'hlk).b.toNat]'r2) o <;> rw [hc] at hh); rotate_left; rotate_left)
  | ((with_reducible refine a1j ?_); refine a1w (⟨j + 1, by omega, e9z hkj hlt hlk (by simp only [wrI]; first | (rw [r5]; have hm := c6w hc; omega) | omega | (rintro (⟨_, hm⟩ | ⟨_, hm⟩) <;> first | omega | (rw [r5] at hm; exact c6w hc hm)))⟩) (gk3 (j := 0) [] (Bs.pc _) ?_ ?_ ?_ ?_ ?_ ?_ ?_) ?_; (iterate 7 (focus (first | rfl | (simp [LPXB, *, SIMB, hdN, injB]; done)))); (focus (dsimp only; omega)))
  | ((with_reducible refine a1j ?_); refine a1w (⟨i + 1, by omega, f0a hlt hkj⟩) (gk3 (j := 0) [] (Bs.pc _) ?_ ?_ ?_ ?_ ?_ ?_ ?_) ?_; (iterate 7 (focus (first | rfl | (simp [LPXB, *, SIMB, hdN, injB]; done)))); (focus (dsimp only; omega)))
  | with_reducible first | refine a0p (id := 15) 11 a0k (by kernel_rfl) fun K hK => ?_ | refine a0p (id := 11) 11 a0k (by kernel_rfl) fun K hK => ?_ | refine stp ?_
  | (with_reducible refine stpK ?_; intro K hK)
  | (with_reducible refine stpC ?_; intro T E hT hE)
  | (with_reducible refine stp2 ?_ ?_ <;> intro h)
  | with_reducible first | refine a0q rfl ?_ | refine a1n hh (by simp [nls, nl, *, NLXB]) ?_ | refine hpc hh (by simp [nls, nl, *, NLXB]) ?_ | refine a0t rfl (Nat.le_of_ble_eq_true rfl) a0s ?_ | refine a0t rfl (Nat.le_of_ble_eq_true rfl) (a0r (by simp [HPXB, ext, upd, *])) ?_ | refine a1v (by decide) (by kernel_rfl) ?_ | refine a0x (by decide) ?_
  | (with_reducible refine Kont.go hK ?_; clear hK K)
  | ((with_reducible first | refine KT.go hT ?_ | refine KT.go hE ?_); clear hT hE T E)
  | simp [*, -List.all_flatten, -List.all_eq_true, DEFB, LENB]
 all_goals first
  | (simp [e2r hk]; done)
  | (have e := b8j (x := x) (o := o) hlt hlk (by simp only [wrI]; rw [r5]; first | exact .inl ⟨by omega, d3c hc⟩ | exact .inr ⟨by omega, d3c hc⟩); simp [e]; done)
  | trace_state
theorem d6v {f : Nat} {code : List Ins} {j : Nat} {s : Int × Int} (h : s ∈ sitC f code j) (hj : j <= code.length) : ∃ k, k < code.length /\ s = ((f : Int), (k : Int)) := by
 simp only [sitC, List.mem_map, List.mem_filter, List.mem_range] at h
 obtain ⟨k, ⟨h1, _⟩, rfl⟩ := h
 exact ⟨k, by omega, rfl⟩
theorem d1b {fs : List FnD} : ∀ (i : Nat), i <= fs.length -> ∀ (k : Nat) (h : k < (sitP fs i).length), 1 <= k -> ∃ (f : Nat) (hf : f < fs.length) (j : Nat), j < fs[f].code.length /\ (sitP fs i)[k] = ((f : Int), (j : Int))
 | 0, _, k, h, h1 => by simp [sitP] at h; omega
 | i + 1, hi, k, h, h1 => by
   have hif : i < fs.length := by omega
   have e := c5s hif
   by_cases hk : k < (sitP fs i).length
   . obtain ⟨f, hf, j, hj, e'⟩ := d1b i (by omega) k hk h1
     exact ⟨f, hf, j, hj, by simp only [e, List.getElem_append_left hk, e']⟩
   . have h' : k < (sitP fs i ++ sitC i fs[i].code fs[i].code.length).length := by rw [<- e]; exact h
     have h2 : (sitP fs (i + 1))[k] = (sitC i fs[i].code fs[i].code.length)[k - (sitP fs i).length]'(by rw [List.length_append] at h'; omega) := by
      simp only [e]; rw [List.getElem_append_right (by omega)]
     obtain ⟨j, hj, e'⟩ := d6v (List.getElem_mem (l := sitC i fs[i].code fs[i].code.length) (n := k - (sitP fs i).length) (by rw [List.length_append] at h'; omega)) (Nat.le_refl _)
     exact ⟨i, hif, j, hj, by rw [h2, e']⟩
theorem d0z (p : Pg) {o : Int} (h0 : 0 < o) (h1 : o < ((a0d p).length : Int)) : ∃ (h : o.toNat < (a0d p).length) (f : Nat) (hf : f < p.funcs.length) (j : Nat) (hj : j < p.funcs[f].code.length), (a0d p)[o.toNat] = ((f : Int), (j : Int)) := by
 have h : o.toNat < (a0d p).length := by omega
 obtain ⟨f, hf, j, hj, e⟩ := d1b (fs := p.funcs) p.funcs.length (Nat.le_refl _) o.toNat h (by omega)
 exact ⟨h, f, hf, j, hj, e⟩
theorem e5o {p : Pg} {x : Pts} (hx : Gv.Form p x) {o : Int} (h0 : 0 < o) {f j : Nat} (hf : f < p.funcs.length) (hj : j < p.funcs[f].code.length) (h : o.toNat < (a0d p).length) (e : (a0d p)[o.toNat] = ((f : Int), (j : Int))) :
 a4x p x o = if p.funcs[f].code[j].op = 23 then [] else if p.funcs[f].code[j].op = 24 /\ wrR p x o = false then [p.funcs[f].code[j].b] else oneP p.funcs p.funcs.length := by
 have hn : b5m p (x.sites.getD o.toNat (0, 0)) = p.funcs[f].code[j] := by
  rw [hx.sites, List.getD_eq_getElem?_getD, List.getElem?_eq_getElem h, Option.getD_some, e]
  simp [b5m, hf, List.getD_eq_getElem?_getD, hj]
 simp only [a4x, h0, if_true, hn]
theorem e1s {p : Pg} {x : Pts} {o : Int} (h0 : ¬ 0 < o) : a4x p x o = oneP p.funcs p.funcs.length := by
 simp [a4x, h0, ins0]
theorem b3o {fs : List FnD} {i : Nat} (h : i < fs.length) (e : fs[i].params = 1) : oneP fs (i + 1) = oneP fs i ++ [(i : Int)] := by
 unfold oneP
 rw [List.range_succ, List.filter_append, List.map_append]
 have : a5f fs (i : Int) = 1 := by rw [a8l _ _ (by simpa using h)]; simpa using e
 simp [this]
theorem b7e {fs : List FnD} {i : Nat} (h : i < fs.length) (e : ¬ fs[i].params = 1) : oneP fs (i + 1) = oneP fs i := by
 unfold oneP
 rw [List.range_succ, List.filter_append, List.map_append]
 have : ¬ a5f fs (i : Int) = 1 := by rw [a8l _ _ (by simpa using h)]; simpa using e
 simp [this]
theorem c2b (fs : List FnD) : oneP fs 0 = [] := rfl
theorem b0h (l : List Int) : nfs (ints l).flatten = true := by
 induction l with
 | nil => rfl
 | cons a l ih => simpa [ints, a2j, nfs, nf] using ih
theorem b1w (fs : List FnD) (i : Nat) : (oneP fs i).length <= i := by
 unfold oneP
 rw [List.length_map]
 exact Nat.le_trans (List.length_filter_le _ _) (by simp)
theorem e3m {p : Pg} (hp : VOk p) {x : Pts} (hx : Gv.Form p x) {o : Int} (h0 : ¬ 0 < o) : PCn Try.prog Gl 49 [.agg [.list 4 (fns p.funcs), .list 2 (gbs p.globals), .list 1 (lays p.layouts), .int .i64 p.main], .agg [.list 2 (sits x.sites), .list 1 (lls x.regs), .list 1 (lays x.cells)], .int .i64 o] (.list 1 (ints (a4x p x o))) := by
 have hfu := e1s (p := p) (x := x) h0
 refine d5i (res := [.tmp 6]) 10 67 [] (fun d ix => 0 :: d :: ix) (fn := Try.f49) (by kernel_rfl) (by rfl) (by rfl) (by rfl) (by simp) (by decide) ?_
 repeat' first
  | ((with_reducible refine a1o ?_); refine a2h (σ := {i : Nat // i <= p.funcs.length}) (fun y => [(9, .int .i64 (y.1 : Int)), (8, .sl [0, 1000] 1 0 (oneP p.funcs y.1).length)]) [] (fun y => []) [] (fun y => [([0, 1000], .cells 3 1 (ints (oneP p.funcs y.1)))]) (fun y => noH) (fun y => p.funcs.length - y.1) ⟨0, by simp⟩ (gk3 (j := 0) [] (Bs.pc _) ?_ ?_ ?_ ?_ ?_ ?_ ?_) ?_; (iterate 7 (focus (first | rfl | (simp [LPXB, *, SIMB, hdN, injB, c2b]; done)))); rintro ⟨i, hi⟩; simp only [lpS, LPXB]; (try dsimp only at hi); rcases a1l hi with hlt | ⟨hlt, rfl⟩; have hnf := hp.nf; have wi := wli hlt (by omega); have hol := b1w p.funcs i; have hs := szn (n := (oneP p.funcs i).length + 1) (k := 8) (by omega) (by decide); have hs2 : (oneP p.funcs i).length + 1 <= 4611686018427387904 := (by omega); by_cases hq : (p.funcs[i]'hlt).params = 1)
  | ((with_reducible refine a1j ?_); refine a1w (⟨i + 1, by omega⟩) (gk3 (j := 0) [] (Bs.pc _) ?_ ?_ ?_ ?_ ?_ ?_ ?_) ?_; (iterate 7 (focus (have e := b3o hlt hq; first | rfl | (simp [LPXB, *, SIMB, hdN, injB, a2j]; done)))); (focus (dsimp only; omega)))
  | ((with_reducible refine a1j ?_); refine a1w (⟨i + 1, by omega⟩) (gk3 (j := 0) [] (Bs.pc _) ?_ ?_ ?_ ?_ ?_ ?_ ?_) ?_; (iterate 7 (focus (have e := b7e hlt hq; first | rfl | (simp [LPXB, *, SIMB, hdN, injB]; done)))); (focus (dsimp only; omega)))
  | with_reducible first | refine a0p (id := 3) 18 a0k (by kernel_rfl) fun K hK => ?_ | refine stp ?_
  | (with_reducible refine stpK ?_; intro K hK)
  | (with_reducible refine stpC ?_; intro T E hT hE)
  | (with_reducible refine stp2 ?_ ?_ <;> intro h)
  | with_reducible first | refine a0q rfl ?_ | refine a1n (b6o hp hx _) (by simp [nls, nl, *, NLXB]) ?_ | refine hpc (b6o hp hx _) (by simp [nls, nl, *, NLXB]) ?_ | refine a0t rfl (Nat.le_of_ble_eq_true rfl) a0s ?_ | refine a0t rfl (Nat.le_of_ble_eq_true rfl) (a0r (by simp [HPXB, ext, upd, *])) ?_ | refine a1v (by decide) (by kernel_rfl) ?_ | refine a0x (by decide) ?_
  | (with_reducible refine Kont.go hK ?_; clear hK K)
  | ((with_reducible first | refine KT.go hT ?_ | refine KT.go hE ?_); clear hT hE T E)
  | simp [*, -List.all_flatten, -List.all_eq_true, DEFB, LENB, List.take_length, asR, a4e, a2z, FV.cellV, a2j, b0h]
 all_goals first
  | rfl
  | (simp [hfu, asR]; done)
  | trace_state
theorem e3l {p : Pg} (hp : VOk p) {x : Pts} (hx : Gv.Form p x) {o : Int} (h0 : 0 < o) (h1 : o < ((a0d p).length : Int)) : PCn Try.prog Gl 49 [.agg [.list 4 (fns p.funcs), .list 2 (gbs p.globals), .list 1 (lays p.layouts), .int .i64 p.main], .agg [.list 2 (sits x.sites), .list 1 (lls x.regs), .list 1 (lays x.cells)], .int .i64 o] (.list 1 (ints (a4x p x o))) := by
 have hwr := b6o hp hx o
 rw [hx.sites] at hwr
 obtain ⟨hol0, f, hf, j, hj, es⟩ := d0z p h0 h1
 have hfu := e5o hx h0 hf hj hol0 es
 have es1 : ((a0d p)[o.toNat]'hol0).1 = (f : Int) := by rw [es]
 have es2 : ((a0d p)[o.toNat]'hol0).2 = (j : Int) := by rw [es]
 have hsi := hx.sites
 have hge : 0 <= o := by omega
 clear es
 by_cases q1 : (p.funcs[f]'hf).code[j].op = 23
 rotate_left
 by_cases q2 : (p.funcs[f]'hf).code[j].op = 24
 cases hw : wrR p x o
 all_goals
  refine d5i (res := [.tmp 6]) 10 67 [] (fun d ix => 0 :: d :: ix) (fn := Try.f49) (by kernel_rfl) (by rfl) (by rfl) (by rfl) (by simp) (by decide) ?_
  repeat' first
   | ((with_reducible refine a1o ?_); refine a2h (σ := {i : Nat // i <= p.funcs.length}) (fun y => [(9, .int .i64 (y.1 : Int)), (8, .sl [0, 1000] 1 0 (oneP p.funcs y.1).length)]) [] (fun y => []) [] (fun y => [([0, 1000], .cells 3 1 (ints (oneP p.funcs y.1)))]) (fun y => noH) (fun y => p.funcs.length - y.1) ⟨0, by simp⟩ (gk3 (j := 0) [] (Bs.pc _) ?_ ?_ ?_ ?_ ?_ ?_ ?_) ?_; (iterate 7 (focus (first | rfl | (simp [LPXB, *, SIMB, hdN, injB, c2b]; done)))); rintro ⟨i, hi⟩; simp only [lpS, LPXB]; (try dsimp only at hi); rcases a1l hi with hlt | ⟨hlt, rfl⟩; have hnf := hp.nf; have wi := wli hlt (by omega); have hol := b1w p.funcs i; have hs := szn (n := (oneP p.funcs i).length + 1) (k := 8) (by omega) (by decide); have hs2 : (oneP p.funcs i).length + 1 <= 4611686018427387904 := (by omega); by_cases hq : (p.funcs[i]'hlt).params = 1)
   | ((with_reducible refine a1j ?_); refine a1w (⟨i + 1, by omega⟩) (gk3 (j := 0) [] (Bs.pc _) ?_ ?_ ?_ ?_ ?_ ?_ ?_) ?_; (iterate 7 (focus (have e := b3o hlt hq; first | rfl | (simp [LPXB, *, SIMB, hdN, injB, a2j]; done)))); (focus (dsimp only; omega)))
   | ((with_reducible refine a1j ?_); refine a1w (⟨i + 1, by omega⟩) (gk3 (j := 0) [] (Bs.pc _) ?_ ?_ ?_ ?_ ?_ ?_ ?_) ?_; (iterate 7 (focus (have e := b7e hlt hq; first | rfl | (simp [LPXB, *, SIMB, hdN, injB]; done)))); (focus (dsimp only; omega)))
   | with_reducible first | refine a0p (id := 3) 18 a0k (by kernel_rfl) fun K hK => ?_ | refine stp ?_
   | (with_reducible refine stpK ?_; intro K hK)
   | (with_reducible refine stpC ?_; intro T E hT hE)
   | (with_reducible refine stp2 ?_ ?_ <;> intro h)
   | with_reducible first | refine a0q rfl ?_ | refine a1n hwr (by simp [nls, nl, *, NLXB]) ?_ | refine hpc hwr (by simp [nls, nl, *, NLXB]) ?_ | refine a0t rfl (Nat.le_of_ble_eq_true rfl) a0s ?_ | refine a0t rfl (Nat.le_of_ble_eq_true rfl) (a0r (by simp [HPXB, ext, upd, *])) ?_ | refine a1v (by decide) (by kernel_rfl) ?_ | refine a0x (by decide) ?_
   | (with_reducible refine Kont.go hK ?_; clear hK K)
   | ((with_reducible first | refine KT.go hT ?_ | refine KT.go hE ?_); clear hT hE T E)
   | simp [*, -List.all_flatten, -List.all_eq_true, DEFB, LENB, List.take_length, asR, a4e, a2z, FV.cellV, a2j, b0h]
  all_goals first
   | rfl
   | (simp [hfu, asR]; done)
   | trace_state
theorem c3o {p : Pg} (hp : VOk p) {x : Pts} (hx : Gv.Form p x) {o : Int} (h1 : o < ((a0d p).length : Int)) : PCn Try.prog Gl 49 [.agg [.list 4 (fns p.funcs), .list 2 (gbs p.globals), .list 1 (lays p.layouts), .int .i64 p.main], .agg [.list 2 (sits x.sites), .list 1 (lls x.regs), .list 1 (lays x.cells)], .int .i64 o] (.list 1 (ints (a4x p x o))) := by
 by_cases h0 : 0 < o
 . exact e3l hp hx h0 h1
 . exact e3m hp hx h0
theorem c0u {H : Heap} {m : Nat} : ∀ (R S : List (List FV)), R.length = S.length -> (∀ i (h : i < R.length) (h' : i < S.length) (k : Nat), m <= k -> frzs H k R[i] = some S[i]) -> (nlss R = true -> R = S) -> ∀ k, R.length + m + 1 <= k -> frzR H k R = some S
 | [], [], _, _, _, k, hk => by
   obtain ⟨k, rfl⟩ : ∃ q, k = q + 1 := ⟨k - 1, by omega⟩
   simp [frzR, nlss]
 | [], _ :: _, h, _, _, _, _ => by simp at h
 | _ :: _, [], h, _, _, _, _ => by simp at h
 | r :: R, t :: S, hl, h, hn, k, hk => by
   obtain ⟨k, rfl⟩ : ∃ q, k = q + 1 := ⟨k - 1, by simp at hk; omega⟩
   have h0 : frzs H k r = some t := h 0 (by simp) (by simp) k (by simp at hk; omega)
   have ih := c0u (m := m) R S (by simpa using hl) (fun i h1 h2 q hq => h (i + 1) (by simpa using h1) (by simpa using h2) q hq)
   by_cases e : nlss (r :: R) = true
   . unfold frzR
     rw [if_pos e, hn e]
   . have hR : nlss R = true -> R = S := fun e' => by
      refine List.ext_getElem (by simpa using hl) fun i h1 h2 => ?_
      have g := h (i + 1) (by simpa using h1) (by simpa using h2) (m + 1) (by omega)
      simp only [List.getElem_cons_succ] at g
      have hnl : nls R[i] = true := by
       rw [a5x, c3z, List.all_eq_true] at e'
       rw [c3z, List.all_eq_true]
       exact fun v hv => e' v (List.mem_flatten.2 ⟨_, List.getElem_mem h1, hv⟩)
      have key : ∀ (q : Nat) (xs ys : List FV), nls xs = true -> frzs H q xs = some ys -> xs = ys := by
       intro q
       induction q with
       | zero => intro xs ys _ h; simp [frzs] at h
       | succ q ih =>
         intro xs ys hx h
         cases xs with
         | nil => simp [frzs] at h; exact h.symm
         | cons x xs =>
           simp only [nls, Bool.and_eq_true] at hx
           simp only [frzs, Option.bind_eq_some_iff, Option.map_eq_some_iff] at h
           obtain ⟨y, hy, zs, hzs, rfl⟩ := h
           rw [ih xs zs hx.2 hzs]
           congr 1
           cases q with
           | zero => simp [frz] at hy
           | succ q =>
             have hx1 := hx.1
             cases x <;> simp [nl] at hx1 <;> simp_all [frz, nl]
      exact key _ _ _ hnl g
     unfold frzR
     rw [if_neg e]
     simp only [h0, Option.bind_some, ih hR k (by simp at hk; omega), Option.map_some]
theorem d3p {L : List (FM.Loc × FO)} {B : Heap} {Y : Pts} {f : Nat} (h : f < Y.regs.length) (k : Nat) (hk : 3 <= k) : frzs (HP L B (PF Y)) k [.sl [92, f] 1 0 Y.regs[f].length] = some [.list 1 (lays Y.regs[f])] := by
 obtain ⟨k, rfl⟩ : ∃ q, k = q + 3 := ⟨k - 3, by omega⟩
 simp [frzs, frz, a7f h, frzR, a0g, a0a, a9u]
theorem d3q {H : Heap} {xs : List (List FV)} (h : nlss xs = true) (k : Nat) : frzR H (k + 1) xs = some xs := by unfold frzR; rw [if_pos h]
theorem c4g {p : Pg} {L : List (FM.Loc × FO)} {B : Heap} {Y : Pts} (hy : Gv.Form p Y) (k : Nat) (hk : p.funcs.length + 10 <= k) : frz (HP L B (PF Y)) k (.agg [.list 2 (sits (a0d p)), .sl [91] 1 0 p.funcs.length, .sl [93] 1 0 (a0d p).length]) = some (.agg [.list 2 (sits Y.sites), .list 1 (lls Y.regs), .list 1 (lays Y.cells)]) := by
 obtain ⟨k, rfl⟩ : ∃ q, k = q + 10 := ⟨k - 10, by omega⟩
 have h1 : frzR (HP L B (PF Y)) (k + 6) (rowN Y.regs) = some (lls Y.regs) := by
  refine c0u (m := 3) _ _ (by simp [a1a, a3h]) (fun i h h' q hq => ?_) (fun hn => ?_) _ (by rw [a1a, hy.rn]; omega)
  . rw [a3y h, a8b h']
    exact d3p (by rwa [a1a] at h) q hq
  . cases e : Y.regs with
    | nil => rfl
    | cons a r => rw [e] at hn; simp [rowN, nlss, nls, nl, List.mapIdx_cons] at hn
 have e1 : (rowN Y.regs).take p.funcs.length = rowN Y.regs := List.take_of_length_le (by rw [a1a, hy.rn]; exact Nat.le_refl _)
 simp [frz, frzs, nls, nl, a1d, a4b, a3o, a1a, hy.rn, e1, h1, d3q, a0g, hy.cn, a0a, a9u, hy.sites, List.take_of_length_le]
def PR (R : List (List (List Int))) : Heap := fun l => match l with
 | [92, f] => (R[f]?).map fun r => .cells 41 1 (lays r)
 | _ => none
theorem a7b (R : List (List (List Int))) (k : Nat) (r : List Nat) (hk : k <= 91) : PR R (k :: r) = none := by
 unfold PR
 split
 . rename_i h; simp at h; omega
 . rfl
theorem a8e (R : List (List (List Int))) (r : List Nat) : PR R (93 :: r) = none := by
 unfold PR
 split
 . rename_i h; simp at h
 . rfl
theorem d5g : PR [] = noH := by
 funext l
 unfold PR
 split <;> rfl
theorem c4v (R : List (List (List Int))) (f : Nat) : PR R [92, f] = (R[f]?).map fun r => .cells 41 1 (lays r) := id (Eq.refl _)
structure BsC (B : Heap) : Prop where
 fr : ∀ k r, k <= 2 -> B (k :: r) = none
 f1 : ∀ r, B (91 :: r) = none
 f2 : ∀ r, B (92 :: r) = none
 f3 : ∀ r, B (93 :: r) = none
 clo : Clo B
 nd : ∀ l o, B l = some o -> o ≠ .dead
theorem BsC.bs {B : Heap} (h : BsC B) (R : List (List (List Int))) : Bs (inH (HP [] B noH)) 2 B (PR R) := by
 refine ⟨h.fr, fun k r hk => a7b R k r (by omega), fun l o hl => ?_, fun l hl => ?_⟩
 . rw [a3v] at hl
   cases e : PR R l with
   | some o' =>
     rw [e] at hl
     obtain rfl := Option.some.inj hl
     unfold PR at e
     split at e
     . rw [Option.map_eq_some_iff] at e
       obtain ⟨r, _, rfl⟩ := e
       have : ∀ (U : FM.Loc -> Prop) (L : List (List Int)), a3m U (lays L) := by
        intro U L
        induction L with
        | nil => trivial
        | cons a L ih => exact ⟨⟨a0c a, trivial⟩, ih⟩
       exact this _ _
     . cases e
   | none =>
     rw [e] at hl
     refine a5p (fun q hq => ?_) (h.clo l o hl)
     rw [a3v]
     cases PR R q <;> simp [hq]
 . have hl : HP [] B noH l ≠ none := hl
   have : HP [] B noH l = B l := rfl
   rw [this] at hl
   rw [a3v]
   cases PR R l <;> simp [hl]
theorem BsC.live {B : Heap} (h : BsC B) (R : List (List (List Int))) : ∀ l, inH (HP [] B noH) l -> ∃ o, ext B (PR R) l = some o /\ o ≠ .dead := fun l hl => by
 have hl : HP [] B noH l ≠ none := hl
 obtain ⟨o, ho⟩ := Option.ne_none_iff_exists'.1 hl
 have ho : B l = some o := ho
 have h0 : PR R l = none := by
  cases e : PR R l with
  | none => rfl
  | some o' =>
    unfold PR at e
    split at e
    . rename_i f; rw [h.f2] at ho; cases ho
    . cases e
 exact ⟨o, by rw [c7n h0]; exact ho, h.nd l o ho⟩
theorem BsC.bs0 {B : Heap} (h : BsC B) : Bs (inH (HP [] B noH)) 2 B noH := by
 have := h.bs []
 rwa [d5g] at this
theorem BsC.live0 {B : Heap} (h : BsC B) : ∀ l, inH (HP [] B noH) l -> ∃ o, ext B noH l = some o /\ o ≠ .dead := by
 have := h.live []
 rwa [d5g] at this
theorem f5z {L : List (FM.Loc × FO)} {B : Heap} {R : List (List (List Int))} {r : List (List Int)} (hL : ∀ p ∈ L, p.1 ≠ [92, R.length]) : HP (([92, R.length], .cells 41 1 (lays r)) :: L) B (PR R) = HP L B (PR (R ++ [r])) := by
 funext k
 unfold HP
 rw [a3v, a3v]
 by_cases e : k = [92, R.length]
 . subst e
   rw [c4v, c4v]
   simp [updL, upd]
 . have : PR (R ++ [r]) k = PR R k := by
    unfold PR
    split
    . rename_i f
      have hf : f ≠ R.length := fun e' => e (by rw [e'])
      by_cases h1 : f < R.length
      . rw [List.getElem?_append_left h1]
      . rw [List.getElem?_eq_none (by simp; omega), List.getElem?_eq_none (by omega)]
    . rfl
   rw [this]
   cases PR R k <;> simp [updL, upd, e]
theorem c5y {U : FM.Loc -> Prop} (R : List (List (List Int))) (hU : ∀ g, g < R.length -> U [92, g]) : a3m U (rowN R) := by
 have key : ∀ (xs : List (List FV)), (∀ r ∈ xs, ∃ g n, g < R.length /\ r = [.sl [92, g] 1 0 n]) -> a3m U xs := by
  intro xs
  induction xs with
  | nil => intro _; trivial
  | cons r xs ih =>
    intro h
    obtain ⟨g, n, hg, rfl⟩ := h r (by simp)
    exact ⟨⟨hU g hg, trivial⟩, ih fun r hr => h r (by simp [hr])⟩
 refine key _ fun r hr => ?_
 obtain ⟨i, hi, rfl⟩ := List.getElem_of_mem hr
 rw [a3y hi]
 exact ⟨i, _, by rwa [a1a] at hi, rfl⟩
theorem a5c {β : FM.Loc -> Option FM.Loc} {R : List (List (List Int))} (h : ∀ g, g < R.length -> β [92, g] = some [92, g]) : renss β (rowN R) = rowN R :=
 b1c (U := fun l => ∃ g, g < R.length /\ l = [92, g]) (c5y R fun g hg => ⟨g, hg, rfl⟩) fun l ⟨g, hg, e⟩ => by rw [e]; exact h g hg
theorem d8c {β : FM.Loc -> Option FM.Loc} {U : FM.Loc -> Prop} {R : List (List (List Int))} (h : ∀ g, g < R.length -> β [92, g] = some [92, g]) (hU : ∀ g, g < R.length -> U [92, g]) : a8m β U (rowN R) :=
 b1j (U := fun l => ∃ g, g < R.length /\ l = [92, g]) (c5y R fun g hg => ⟨g, hg, rfl⟩) (fun l ⟨g, hg, e⟩ => by rw [e]; exact h g hg) (fun l ⟨g, hg, e⟩ => by rw [e]; exact hU g hg)
theorem a5d {β : FM.Loc -> Option FM.Loc} {L : List (FM.Loc × FO)} {B : Heap} {R : List (List (List Int))} (h : ∀ g, g < R.length -> β [92, g] = some [92, g]) : a8m β (inH (HP L B (PR R))) (rowN R) :=
 d8c h fun g hg => by
  show HP L B (PR R) [92, g] ≠ none
  rw [a8x (ob := .cells 41 1 (lays R[g])) (by rw [c4v, List.getElem?_eq_getElem hg]; rfl)]; simp
theorem a6j {k : Nat} {r : List Nat} {sz : Nat} {xs : List (List FV)} (R : List (List (List Int))) (h : k ≠ 92) : fzss (k :: r) sz xs (rowN R) = rowN R :=
 c0r (U := fun l => ∃ g, l = [92, g]) (fun ⟨g, e⟩ => h (by simp at e; exact e.1)) (c5y R fun g _ => ⟨g, rfl⟩)
theorem a4q (β : FM.Loc -> Option FM.Loc) (xs ys : List (List FV)) : renss β (xs ++ ys) = renss β xs ++ renss β ys := by
 induction xs with
 | nil => rfl
 | cons x xs ih => simp [renss, ih]
theorem a4s (β : FM.Loc -> Option FM.Loc) (U : FM.Loc -> Prop) (xs ys : List (List FV)) : a8m β U (xs ++ ys) ↔ a8m β U xs /\ a8m β U ys := by
 induction xs with
 | nil => simp [a8m]
 | cons x xs ih => simp [a8m, ih, and_assoc]
theorem e2k {f : Nat} {k0 k1 : Option FM.Loc} {l1 : List Nat} {g : Nat} (hg : g < f) : (fun x : FM.Loc => if x = [92, f] then k0 else if x = 2 :: l1 then k1 else some x) [92, g] = some [92, g] := by
 have : g ≠ f := by omega
 simp [this]
theorem b7b {f : Nat} {R : List (List (List Int))} (hR : R.length <= f) {k0 k1 : Option FM.Loc} {l1 : List Nat} : renss (fun x => if x = [92, f] then k0 else if x = 2 :: l1 then k1 else some x) (rowN R) = rowN R := a5c fun g hg => e2k (by omega)
theorem b7k {f : Nat} {L : List (FM.Loc × FO)} {B : Heap} {R : List (List (List Int))} (hR : R.length <= f) {k0 k1 : Option FM.Loc} {l1 : List Nat} : a8m (fun x => if x = [92, f] then k0 else if x = 2 :: l1 then k1 else some x) (inH (HP L B (PR R))) (rowN R) := a5d fun g hg => e2k (by omega)
theorem b7a {R : List (List (List Int))} {i : Nat} (h : i < R.length) : rowN (R.take (i + 1)) = rowN (R.take i) ++ [[.sl [92, i] 1 0 R[i].length]] := by
 have e : R.take (i + 1) = R.take i ++ [R[i]] := by rw [List.take_add_one, List.getElem?_eq_getElem h]; rfl
 rw [e, d1n, List.length_take, Nat.min_eq_left (by omega)]
theorem d0h {α : Type} {R : List α} {i : Nat} (h : i < R.length) : R.take (i + 1) = R.take i ++ [R[i]] := by rw [List.take_add_one, List.getElem?_eq_getElem h]; rfl
theorem g3w {x : Pts} {B : Heap} (hB : BsC B) {L : List (FM.Loc × FO)} (h91 : updL L B [91] = some (.cells 24 1 (rowN x.regs))) (h93 : updL L B [93] = some (.cells 41 1 (lays x.cells))) (hL : ∀ p ∈ L, p.1 = [91] \/ p.1 = [93] \/ ∃ r, p.1 = 2 :: r) : HSub (HP [] B (PF x)) (HP L B (PR x.regs)) := by
 intro k o hk
 unfold HP at hk ⊢
 rw [a3v] at hk ⊢
 by_cases e1 : k = [91]
 . subst e1
   rw [a7n] at hk
   rw [a7b _ _ _ (by decide)]
   exact h91.trans hk
 by_cases e3 : k = [93]
 . subst e3
   rw [a7m] at hk
   rw [a8e]
   exact h93.trans hk
 have e : PF x k = PR x.regs k := by
  unfold PF PR
  split
  . exact absurd rfl e1
  . rfl
  . exact absurd rfl e3
  . rename_i h1 h2 h3
    split
    . rename_i f; first | exact absurd rfl (h1 f) | exact absurd rfl (h2 f) | exact absurd rfl (h3 f)
    . rfl
 rw [e] at hk
 cases h : PR x.regs k with
 | some o' => rw [h] at hk; exact hk
 | none =>
   rw [h] at hk
   have hk : B k = some o := hk
   show updL L B k = some o
   rw [a8z fun p hp e' => ?_]
   . exact hk
   . rcases hL p hp with h | h | ⟨r, h⟩
     . exact e1 (e'.symm.trans h)
     . exact e3 (e'.symm.trans h)
     . rw [<- e', h, hB.fr 2 r (by decide)] at hk
       cases hk
theorem b8s (U : FM.Loc -> Prop) (L : List (List Int)) : a3m U (lays L) := by
 induction L with
 | nil => trivial
 | cons a L ih => exact ⟨⟨a0c a, trivial⟩, ih⟩
theorem d4p {B : Heap} (x : Pts) (hB : ∀ l o, B l = some o -> ninO (fun l => ext B (PF x) l ≠ none) o) : Clo (ext B (PF x)) := fun l o hl => by
 rw [a3v] at hl
 cases e : PF x l with
 | some o' =>
   rw [e] at hl
   obtain rfl := Option.some.inj hl
   have h92 : ∀ g, g < x.regs.length -> ext B (PF x) [92, g] ≠ none := fun g hg => by
    rw [b2r (ob := .cells 41 1 (lays x.regs[g])) (by rw [d9v, List.getElem?_eq_getElem hg]; rfl)]; simp
   unfold PF at e
   split at e
   . obtain rfl := Option.some.inj e
     exact c5y x.regs h92
   . rw [Option.map_eq_some_iff] at e
     obtain ⟨r, _, rfl⟩ := e
     exact b8s _ _
   . obtain rfl := Option.some.inj e
     exact b8s _ _
   . cases e
 | none =>
   rw [e] at hl
   exact hB l o hl
theorem d9p {x : Pts} {B : Heap} (hB : BsC B) {L : List (FM.Loc × FO)} (h91 : updL L B [91] = some (.cells 24 1 (rowN x.regs))) (h93 : updL L B [93] = some (.cells 41 1 (lays x.cells))) (hL : ∀ p ∈ L, p.1 = [91] \/ p.1 = [93] \/ ∃ r, p.1 = 2 :: r) :
 LFin (HP [] B noH) (fun r1 H1 => r1 = .agg [.list 2 (sits x.sites), .sl [91] 1 0 x.regs.length, .sl [93] 1 0 x.cells.length] /\ H1 = HP [] B (PF x)) (HP L B (PR x.regs)) (some [.agg [.list 2 (sits x.sites), .sl [91] 1 0 x.regs.length, .sl [93] 1 0 x.cells.length]]) := by
 have hup : ∀ l, B l ≠ none -> ext B (PF x) l ≠ none := fun l hl => by
  rw [a3v]
  cases PF x l <;> simp [hl]
 refine ⟨HP [] B (PF x), ⟨rfl, rfl⟩, g3w hB h91 h93 hL, fun l hl => hup l hl, ?_, ?_⟩
 . refine ⟨a1d _, ?_, ?_, trivial⟩
   . show HP [] B (PF x) [91] ≠ none
     rw [a4b]; simp
   . show HP [] B (PF x) [93] ≠ none
     rw [a3o]; simp
 . exact d4p x fun l o ho => a5p hup (hB.clo l o ho)
theorem e5j {c : Cfg} {σ : Type} {vs0 vs : List FV} {tm0 tm : Asg} {L0 L : List (FM.Loc × FO)} {B : Heap} {ix : List Nat} {sv : σ -> List (Nat × FV)} {kt : List Nat} {st : σ -> Asg} {dl : List FM.Loc} {sh : σ -> List (FM.Loc × FO)} {fA : σ -> Heap} {x : σ} (f : Nat) (k0 : FM.Loc) (b : List (FM.Loc × Option FM.Loc)) (R : List (List (List Int))) (row : List (List Int)) (hB : BsC B) (hc : c.L = inH (HP [] B noH)) (hf : R.length = f)
 (hfA : fA x = PR (R ++ [row])) (hn : hdN 2 ((a5o (sh x) (delL dl L0)).map Prod.fst ++ k0 :: b.map Prod.fst ++ b.filterMap Prod.snd) = true) (hl : hdN 2 (L.map Prod.fst) = true)
 (hinj : injB (bk (([92, f], some k0) :: b)) ([92, f] :: (a5o (sh x) (delL dl L0)).map Prod.fst) = true)
 (hv : b0a (bk (([92, f], some k0) :: b)) (inH (HP (([92, f], .cells 41 1 (lays row)) :: a5o (sh x) (delL dl L0)) B (PR R))) (setV (sv x) vs0) vs)
 (ht : simT (bk (([92, f], some k0) :: b)) (inH (HP (([92, f], .cells 41 1 (lays row)) :: a5o (sh x) (delL dl L0)) B (PR R))) vs.length tm (st x ++ a9l kt tm0))
 (hH : simH (bk (([92, f], some k0) :: b)) (inH (HP (([92, f], .cells 41 1 (lays row)) :: a5o (sh x) (delL dl L0)) B (PR R))) (HP L B (PR R)) (([92, f], .cells 41 1 (lays row)) :: a5o (sh x) (delL dl L0))) : Gk c (lpS vs0 tm0 L0 B sv kt st dl sh fA x) ⟨vs, tm, HP L B (PR R), ix⟩ := by
 have hb := hB.bs R
 have fr : ∀ r, ext B (PR R) (2 :: r) = none := fun r => a3d.2 ⟨a7b R 2 r (by decide), hB.fr 2 r (by decide)⟩
 have hd := a8p hn
 have h92 : ext B (PR R) [92, f] = none := a3d.2 ⟨by rw [c4v, List.getElem?_eq_none (by omega)]; rfl, hB.f2 _⟩
 subst hf
 refine gk5 (L1 := ([92, R.length], .cells 41 1 (lays row)) :: a5o (sh x) (delL dl L0)) (([92, R.length], some k0) :: b) ?_ hinj (fun n hn' => ?_) (fun p hp => ?_) hb.clo (fun l hl' => hb.lent l (by rw [<- hc]; exact hl')) hv ht hH
 . rw [hfA]
   refine f5z fun p hp e => ?_
   obtain ⟨r, hr⟩ := hd p.1 (by simp only [List.mem_append, List.mem_map]; exact .inl (.inl ⟨p, hp, rfl⟩))
   rw [e] at hr
   simp at hr
 . simp only [List.map_cons, List.filterMap_cons, List.mem_append, List.mem_cons] at hn'
   rcases hn' with (((rfl | h) | (rfl | h)) | (e0 | h))
   . exact h92
   . obtain ⟨r, rfl⟩ := hd n (List.mem_append_left _ (List.mem_append_left _ h)); exact fr r
   . exact h92
   . obtain ⟨r, rfl⟩ := hd n (List.mem_append_left _ (List.mem_append_right _ (List.mem_cons_of_mem _ h))); exact fr r
   . obtain ⟨r, rfl⟩ := hd n (by rw [e0]; exact List.mem_append_left _ (List.mem_append_right _ List.mem_cons_self)); exact fr r
   . obtain ⟨r, rfl⟩ := hd n (List.mem_append_right _ h); exact fr r
 . obtain ⟨r, hr⟩ := a8p hl p.1 (List.mem_map.2 ⟨p, hp, rfl⟩)
   rw [hr]; exact fr r
theorem gk5S {c : Cfg} {σ : Type} {vs0 vs : List FV} {tm0 tm : Asg} {L0 L : List (FM.Loc × FO)} {B A : Heap} {ix : List Nat} {sv : σ -> List (Nat × FV)} {kt : List Nat} {st : σ -> Asg} {dl : List FM.Loc} {sh : σ -> List (FM.Loc × FO)} {fA : σ -> Heap} {x : σ} (b : List (FM.Loc × Option FM.Loc)) (hA : fA x = A) (hcl : Clo (ext B A)) (hc : ∀ l, c.L l -> ext B A l ≠ none)
 (hN : ∀ n ∈ (a5o (sh x) (delL dl L0)).map Prod.fst ++ b.map Prod.fst ++ b.filterMap Prod.snd, ext B A n = none) (hl : ∀ p ∈ L, ext B A p.1 = none) (hinj : injB (bk b) ((a5o (sh x) (delL dl L0)).map Prod.fst) = true)
 (hv : b0a (bk b) (inH (HP (a5o (sh x) (delL dl L0)) B A)) (setV (sv x) vs0) vs) (ht : simT (bk b) (inH (HP (a5o (sh x) (delL dl L0)) B A)) vs.length tm (st x ++ a9l kt tm0))
 (hH : simH (bk b) (inH (HP (a5o (sh x) (delL dl L0)) B A)) (HP L B A) (a5o (sh x) (delL dl L0))) : Gk c (lpS vs0 tm0 L0 B sv kt st dl sh fA x) ⟨vs, tm, HP L B A, ix⟩ :=
 gk5 (L1 := a5o (sh x) (delL dl L0)) b (by rw [hA]) hinj hN hl hcl hc hv ht hH
theorem f0x {c : Cfg} {vs : List FV} {tm : Asg} {L : List (FM.Loc × FO)} {B A : Heap} {ix : List Nat} (l0 : FM.Loc) (T0 : TypeId) (sz0 : Nat) (xs0 : List (List FV)) (hcl : Clo (ext B A)) (hnd : ∀ l, c.L l -> ∃ o, ext B A l = some o /\ o ≠ .dead) (hfr : ∀ n ∈ l0 :: L.map Prod.fst, ext B A n = none)
 (hl : HP L B A l0 = some (.cells T0 sz0 xs0)) (hn : nlss xs0 = true) : Gk c (Fs.mk (fzs l0 sz0 xs0 vs) (fzT l0 sz0 xs0 tm) (HP (fzL l0 sz0 xs0 L) B A) ix) ⟨vs, tm, HP L B A, ix⟩ := by
 have h0 := hfr l0 (by simp)
 have hL : ∀ p ∈ L, ext B A p.1 = none := fun p hp => hfr p.1 (by simp only [List.mem_cons, List.mem_map]; exact .inr ⟨p, hp, rfl⟩)
 rw [<- d3o hcl h0 L hL]
 refine e1p l0 T0 sz0 xs0 (fun l hc => ?_) hl hn
 obtain ⟨o, ho, hd⟩ := hnd l hc
 refine ⟨fun e => (by rw [e, h0] at ho; cases ho), o, ?_, hd⟩
 rw [show HP L B A = ext (hpL L) (ext B A) from b5t hL]
 exact b2r ho
theorem bk_n : bk [] = fun x => some x := rfl
theorem bk_c (k : FM.Loc) (o : Option FM.Loc) (r : List (FM.Loc × Option FM.Loc)) : bk ((k, o) :: r) = fun x => if x = k then o else bk r x := rfl
end Go.He
