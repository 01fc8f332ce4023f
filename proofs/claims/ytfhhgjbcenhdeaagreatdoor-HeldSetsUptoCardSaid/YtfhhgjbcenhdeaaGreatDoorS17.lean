/- Part. -/
import Derived.Test.YtfhhgjbcenhdeaaGreatDoorS15
import Derived.Shelf.SlIterI.Sorted
import Derived.Shelf.Sort.Plain
import Derived.Shelf.Slices.In.SortNone
import Derived.Sort.Row
import Derived.Sort.Grow
import Derived.Shelf.Slices.CompactI
set_option linter.all false
set_option maxRecDepth 100000
set_option maxHeartbeats 0
namespace Go.Je
open Go Go.FM Go.Gv Go.Proofs
variable {A B H : Heap} {L : LF} {R : List (List (List Int))} {T : TypeId} {Y x y : Pts} {a ks l : List Int} {b : Bool} {c : Cfg} {code : List Ins} {f i j k : Nat} {ix l1 : List Nat} {k0 k1 : Option FM.Loc} {lb : FM.Loc} {n : Ins} {o : Int} {p : Pg} {r : List (List Int)} {t : SL} {tm : Asg} {vs : List FV}
theorem e3h (a b : List Int) (hH : H lb = some (.cells T 1 (ints b))) (hb : b.length <= 1000000000) (hlen : ∀ i, i <= b.length -> (a1s a (b.take i)).length <= 999999990) : FC Tp Gl 152 [.list 1 (ints a), .sl lb 1 0 b.length] (H) (.list 1 (ints (a1s a b))) (H) := by
 refine z1s Tryz.f152 [.tmp 4] 6 19 [] 0 ?_
 repeat' first
  | (refine yi ?_; refine a5f (fun y : {i : Nat // i <= b.length} => (⟨[.list 1 (ints (a1s a (b.take y.1))), .sl lb 1 0 b.length, .undef, .undef, .nils, .int .i64 (y.1 : Int)], [], H, []⟩ : Fs)) (fun y => b.length - y.1) ⟨0, by simp⟩ (Wk.gk (e5o rfl (by simp [*, b8u]) (HLe.refl _))) ?_; rintro ⟨i, hi⟩; (try dsimp only at hi); rcases a0c hi with hlt | ⟨hlt, rfl⟩; have wi := wli hlt ya; have hw := c2w (a1s a (b.take i)) (b[i]'hlt) (hlen i hi); have hu := b6a (a := a) hlt; rotate_left; have ht := A0c (l := b); rotate_left)
  | (refine ye ?_; refine a0b (⟨i + 1, by omega⟩) (Wk.gk (e5o rfl (by simp [*]) (HLe.refl _))) yf)
  | refine dz5 ?_
  | (refine stpK ?_; intro K hK)
  | (refine stpC ?_; intro T E hT hE)
  | (refine stp2 ?_ ?_ <;> intro h)
  | refine cpG hw ?_
  | (refine yg ?_; clear hK K)
  | (refine yh ?_; clear hT hE T E)
  | simp [*, -List.all_flatten, -List.all_eq_true, yl, b4o, a0p]
theorem e6d (l : List Int) : inc (a6b x l) := by
 have key : ∀ (l a : List Int), inc a -> inc (l.foldl (fun out o => a1s out (cl x o)) a) := by
  intro l
  induction l with
  | nil => exact fun a h => h
  | cons o l ih => exact fun a h => ih _ (b2m h)
 exact key l [] List.Pairwise.nil
theorem d2r (h : i < l.length) : a6b x (l.take (i + 1)) = a1s (a6b x (l.take i)) (cl x l[i]) := by
 unfold a6b
 rw [A0y, A5n h, A0z]; rfl
theorem g4a (x : Pts) (o : Int) (h : o.toNat < x.cells.length) : cl x o = x.cells[o.toNat] := by simp [cl, A5m, h]
theorem b6r (hx : Gv.Form p x) (l : List Int) : okS (a0a p).length (a6b x l) := ⟨e6d l, e9k hx l⟩
theorem f9i (hp : VOk p) (hy : Gv.Form p Y) (h93 : H [93] = some (.cells 36 1 (lays Y.cells))) (h12 : H [1, 2] = none) (hl : ∀ o ∈ l, 0 <= o /\ o < ((a0a p).length : Int)) (hll : l.length <= 64001) : FC Tp Gl 155 [.agg [.list 2 (sits (a0a p)), .sl [91] 1 0 p.fu.length, .sl [93] 1 0 (a0a p).length], .list 1 (ints l)] (H) (.list 1 (ints (a6b Y l))) (upd H [1, 2] (.cells 49 3 [[.list 2 (sits (a0a p)), .sl [91] 1 0 p.fu.length, .sl [93] 1 0 (a0a p).length]])) := by
 have hsv := a0h hp
 have hcn := hy.cn
 refine z1s Tryz.f155 [.tmp 4] 7 24 [] 1 ?_
 repeat' first
  | (refine yi ?_; refine a5f (fun y : {i : Nat // i <= l.length} => (⟨[.agg [.list 2 (sits (a0a p)), .sl [91] 1 0 p.fu.length, .sl [93] 1 0 (a0a p).length], .list 1 (ints l), .ptr [1, 2] 3 0 0, .undef, .nils, .list 1 (ints (a6b Y (l.take y.1))), .int .i64 (y.1 : Int)], [], upd H [1, 2] (.cells 49 3 [[.list 2 (sits (a0a p)), .sl [91] 1 0 p.fu.length, .sl [93] 1 0 (a0a p).length]]), []⟩ : Fs)) (fun y => l.length - y.1) ⟨0, by simp⟩ (Gk.trans (g8k (vs := [.agg [.list 2 (sits (a0a p)), .sl [91] 1 0 p.fu.length, .sl [93] 1 0 (a0a p).length], .list 1 (ints l), .ptr [1, 2] 3 0 0, .undef, .nils, .nils, .int .i64 0]) ⟨_, _, rfl, a5p _, _, _, rfl, a5p _, _, _, rfl, a5p _, _, _, rfl, a5p _, _, _, rfl, a5p _, _, _, rfl, .inr ⟨1, rfl⟩, _, _, rfl, a5p _, rfl⟩) (Wk.gk (e5o rfl (by simp [*]) (HLe.refl _)))) ?_; rintro ⟨i, hi⟩; (try dsimp only at hi); rcases a0c hi with hlt | ⟨hlt, rfl⟩; have wi := wli hlt ya; have hlo := hl _ (A5p hlt); have hco : ((l[i]'hlt)).toNat < Y.cells.length := ya; have hu := c5f (a6b Y (l.take i)) (Y.cells[((l[i]'hlt)).toNat]'hco) (A0a (b3n (hy.cs _ (A5p hco)).1 (hy.cs _ (A5p hco)).2) ya) (fun k hk => A0a (c7u (b6r hy (l.take i)) (hy.cs _ (A5p hco)).2 k) ya); have hw := d2r (x := Y) hlt; rw [g4a Y _ hco] at hw; rotate_left; have htl := A0c (l := l); rotate_left)
  | (refine ye ?_; refine a0b (⟨i + 1, by omega⟩) (Wk.gk (e5o rfl (by simp [*]) (HLe.refl _))) yf)
  | with_reducible first | refine a0n (id := 5) 10 a0d yc fun K hK => ?_ | refine dz5 ?_ | refine stpK ?_; intro K hK | refine stpC ?_; intro T E hT hE | refine stp2 ?_ ?_ <;> intro h | refine cpG hu ?_ | refine yg ?_; clear hK K | refine yh ?_; clear hT hE T E
  | simp [*, -List.all_flatten, -List.all_eq_true, zo, a0p, b4o, a0p]
def wrI (x : Pts) (o : Int) (i : Nat) (n : Ins) : Prop := ((n.op = 34 \/ n.op = 36) /\ o ∈ rg x i n.a) \/ ((n.op = 37 \/ n.op = 38) /\ o ∈ rg x i n.b)
def noW (p : Pg) (x : Pts) (o : Int) (i j : Nat) : Prop := ∀ i' (h : i' < p.fu.length) j' (h' : j' < p.fu[i'].code.length), i' < i \/ (i' = i /\ j' < j) -> ¬ wrI x o i' p.fu[i'].code[j']
theorem g1l (p : Pg) (x : Pts) (o : Int) : noW p x o 0 0 := fun _ _ _ _ h => by omega
theorem g1j (h : noW p x o i j) (hi : i < p.fu.length) (hj : j < p.fu[i].code.length) (hn : ¬ wrI x o i p.fu[i].code[j]) : noW p x o i (j + 1) := fun i' h1 j' h2 h3 => by
 by_cases e : i' = i /\ j' = j
 . obtain ⟨rfl, rfl⟩ := e; exact hn
 . exact h i' h1 j' h2 ya
theorem g1k (hi : i < p.fu.length) (h : noW p x o i p.fu[i].code.length) : noW p x o (i + 1) 0 := fun i' h1 j' h2 h3 => by
 by_cases e : i' = i
 . subst e; exact h i' h1 j' h2 (.inr ⟨rfl, h2⟩)
 . exact h i' h1 j' h2 ya
theorem b8t (hi : i < p.fu.length) (hj : j < p.fu[i].code.length) (h : wrI x o i p.fu[i].code[j]) : wrR p x o = true := by
 simp only [wrR, A5w]
 exact ⟨i, hi, _, A5p hj, h⟩
theorem f1n (h : noW p x o p.fu.length 0) : wrR p x o = false := by
 simp only [wrR, decide_eq_false_iff_not]
 rintro ⟨i, hi, n, hn, hw⟩
 obtain ⟨j, hj, rfl⟩ := A0g hn
 exact h i hi j hj (.inl hi) hw
theorem wr5 (n : Int) : n = 34 \/ (¬ n = 34 /\ n = 36) \/ (¬ n = 34 /\ ¬ n = 36 /\ n = 37) \/ (¬ n = 34 /\ ¬ n = 36 /\ ¬ n = 37 /\ n = 38) \/ (¬ n = 34 /\ ¬ n = 36 /\ ¬ n = 37 /\ ¬ n = 38) := by omega
theorem d9a {n : Int} (h : hasI l n = true) : n ∈ l := by simpa [hasI] using h
theorem d0f {n : Int} (h : hasI l n = false) : n ∉ l := by simpa [hasI] using h
theorem g0i (x : Pts) (a : Int) (h : f < x.regs.length) (h' : a.toNat < x.regs[f].length) : rg x f a = x.regs[f][a.toNat] := by simp [rg, A5m, h, h']
theorem a1y (hx : Gv.Form p x) (hi : i < p.fu.length) {a : Int} (ha : isR p.fu[i] a) : ∃ (h1 : i < x.regs.length) (h2 : a.toNat < x.regs[i].length), 0 <= a /\ a < (x.regs[i].length : Int) /\ rg x i a = x.regs[i][a.toNat] /\ okS (a0a p).length x.regs[i][a.toNat] := by
 have h1 : i < x.regs.length := by rw [hx.rn]; exact hi
 have h3 := hx.fn i h1 hi
 obtain ⟨a0, a1⟩ := ha
 have h2 : a.toNat < x.regs[i].length := by omega
 exact ⟨h1, h2, a0, by omega, g0i x a h1 h2, hx.rs i h1 _ (A5p h2)⟩
theorem a3l (hp : VOk p) (hi : i < p.fu.length) (hj : j < p.fu[i].code.length) (h : (rR p.fu[i].code[j].op).1 = 100 \/ (rR p.fu[i].code[j].op).1 = 114) : isR p.fu[i] p.fu[i].code[j].a :=
 a2g (hp.ins _ (A5p hi) _ (A5p hj)).a h
theorem a5l (hp : VOk p) (hi : i < p.fu.length) (hj : j < p.fu[i].code.length) (h : (rR p.fu[i].code[j].op).2.1 = 100 \/ (rR p.fu[i].code[j].op).2.1 = 114) : isR p.fu[i] p.fu[i].code[j].b :=
 a2g (hp.ins _ (A5p hi) _ (A5p hj)).b h
theorem a7q {n : Nat} (h : okS n l) : l.length <= n := b3n h.1 h.2
theorem c2t (hp : VOk p) (hx : Gv.Form p x) (o : Int) : Pq 178 [PA p, .agg [.list 2 (sits x.sites), .list 1 (lls x.regs), .list 1 (lays x.cells)], .int .i64 o] (.bool (wrR p x o)) := by
 have hsv := a0h hp
 refine yq Tryz.f178 [.tmp 6] 10 67 [38] 0 ?_
 repeat' first
  | (refine yi ?_; refine a0e (σ := {i : Nat // i <= p.fu.length /\ noW p x o i 0}) (fun y => [(7, .int .i64 (y.1 : Int)), (8, .undef), (9, .undef)]) [] (fun y => []) [] (fun y => []) (fun y => noH) (fun y => p.fu.length - y.1) ⟨0, by simp, g1l p x o⟩ yt ?_; rintro ⟨i, hi, hk⟩; simp only [lpS, LPXB]; (try dsimp only at hi hk); rcases a0c hi with hlt | ⟨hlt, rfl⟩; have wi := wli hlt z1t; have hcv := b9n hp hlt)
  | (refine yi ?_; refine a0e (σ := {j : Nat // j <= (p.fu[i]'hlt).code.length /\ noW p x o i j}) (fun y => [(8, .int .i64 (y.1 : Int)), (9, .undef)]) [] (fun y => []) [] (fun y => []) (fun y => noH) (fun y => (p.fu[i]'hlt).code.length - y.1) ⟨0, by simp, hk⟩ yt ?_; rintro ⟨j, hj, hkj⟩; simp only [lpS, LPXB]; (try dsimp only at hj hkj); rcases a0c hj with hlk | ⟨hlk, rfl⟩; have wk := wli hlk ya; rcases wr5 ((p.fu[i]'hlt).code[j]'hlk).op with q1 | ⟨q1, q2⟩ | ⟨q1, q2, q3⟩ | ⟨q1, q2, q3, q4⟩ | ⟨q1, q2, q3, q4⟩; (have hra := a3l hp hlt hlk (by rw [q1]; decide); obtain ⟨r1, r2, r3, r4, r5, r6⟩ := a1y hx hlt hra; have hh := c5j _ o (A0a (a7q r6) ya); cases hc : hasI ((x.regs[i]'r1)[((p.fu[i]'hlt).code[j]'hlk).a.toNat]'r2) o <;> rw [hc] at hh); rotate_left; rotate_left; (have hra := a3l hp hlt hlk (by rw [q2]; decide); obtain ⟨r1, r2, r3, r4, r5, r6⟩ := a1y hx hlt hra; have hh := c5j _ o (A0a (a7q r6) ya); cases hc : hasI ((x.regs[i]'r1)[((p.fu[i]'hlt).code[j]'hlk).a.toNat]'r2) o <;> rw [hc] at hh); rotate_left; rotate_left; (have hra := a5l hp hlt hlk (by rw [q3]; decide); obtain ⟨r1, r2, r3, r4, r5, r6⟩ := a1y hx hlt hra; have hh := c5j _ o (A0a (a7q r6) ya); cases hc : hasI ((x.regs[i]'r1)[((p.fu[i]'hlt).code[j]'hlk).b.toNat]'r2) o <;> rw [hc] at hh); rotate_left; rotate_left; (have hra := a5l hp hlt hlk (by rw [q4]; decide); obtain ⟨r1, r2, r3, r4, r5, r6⟩ := a1y hx hlt hra; have hh := c5j _ o (A0a (a7q r6) ya); cases hc : hasI ((x.regs[i]'r1)[((p.fu[i]'hlt).code[j]'hlk).b.toNat]'r2) o <;> rw [hc] at hh); rotate_left; rotate_left)
  | (refine ye ?_; refine a0b (⟨j + 1, by omega, g1j hkj hlt hlk (by simp only [wrI]; first | (rw [r5]; have hm := d0f hc; omega) | omega | (rintro (⟨_, hm⟩ | ⟨_, hm⟩) <;> first | omega | (rw [r5] at hm; exact d0f hc hm)))⟩) yt yf)
  | (refine ye ?_; refine a0b (⟨i + 1, by omega, g1k hlt hkj⟩) yt yf)
  | with_reducible first | refine a0n (id := 15) 11 a0d yc fun K hK => ?_ | refine a0n (id := 11) 11 a0d yc fun K hK => ?_ | refine dz5 ?_ | refine stpK ?_; intro K hK | refine stpC ?_; intro T E hT hE | refine stp2 ?_ ?_ <;> intro h | refine cpG hh ?_ | refine yg ?_; clear hK K | refine yh ?_; clear hT hE T E
  | simp [*, -List.all_flatten, -List.all_eq_true, yl]
 all_goals first
  | (simp [f1n hk]; done)
  | (have e := b8t (x := x) (o := o) hlt hlk (by simp only [wrI]; rw [r5]; first | exact .inl ⟨by omega, d9a hc⟩ | exact .inr ⟨by omega, d9a hc⟩); simp [e]; done)
theorem e4a {s : Int × Int} (h : s ∈ sitC f code j) (hj : j <= code.length) : ∃ k, k < code.length /\ s = ((f : Int), (k : Int)) := by
 simp only [sitC, A1t, A4n, A2k] at h
 obtain ⟨k, ⟨h1, _⟩, rfl⟩ := h
 exact ⟨k, by omega, rfl⟩
theorem d5o {fs : List FnD} : ∀ (i : Nat), i <= fs.length -> ∀ (k : Nat) (h : k < (sitP fs i).length), 1 <= k -> ∃ (f : Nat) (hf : f < fs.length) (j : Nat), j < fs[f].code.length /\ (sitP fs i)[k] = ((f : Int), (j : Int))
 | 0, _, k, h, h1 => by simp [sitP] at h; omega
 | i + 1, hi, k, h, h1 => by
   have hif : i < fs.length := by omega
   have e := c8i hif
   by_cases hk : k < (sitP fs i).length
   . obtain ⟨f, hf, j, hj, e'⟩ := d5o i ya k hk h1
     exact ⟨f, hf, j, hj, by simp only [e, List.getElem_append_left hk, e']⟩
   . have h' : k < (sitP fs i ++ sitC i fs[i].code fs[i].code.length).length := by rw [<- e]; exact h
     have h2 : (sitP fs (i + 1))[k] = (sitC i fs[i].code fs[i].code.length)[k - (sitP fs i).length]'(by rw [A0b] at h'; omega) := by
      simp only [e]; rw [A5j ya]
     obtain ⟨j, hj, e'⟩ := e4a (A5p (l := sitC i fs[i].code fs[i].code.length) (n := k - (sitP fs i).length) (by rw [A0b] at h'; omega)) (A5s _)
     exact ⟨i, hif, j, hj, by rw [h2, e']⟩
theorem d5m (p : Pg) (h0 : 0 < o) (h1 : o < ((a0a p).length : Int)) : ∃ (h : o.toNat < (a0a p).length) (f : Nat) (hf : f < p.fu.length) (j : Nat) (hj : j < p.fu[f].code.length), (a0a p)[o.toNat] = ((f : Int), (j : Int)) := by
 have h : o.toNat < (a0a p).length := by omega
 obtain ⟨f, hf, j, hj, e⟩ := d5o (fs := p.fu) p.fu.length (A5s _) o.toNat h ya
 exact ⟨h, f, hf, j, hj, e⟩
theorem f6b (hx : Gv.Form p x) (h0 : 0 < o) (hf : f < p.fu.length) (hj : j < p.fu[f].code.length) (h : o.toNat < (a0a p).length) (e : (a0a p)[o.toNat] = ((f : Int), (j : Int))) :
 a2q p x o = if p.fu[f].code[j].op = 23 then [] else if p.fu[f].code[j].op = 24 /\ wrR p x o = false then [p.fu[f].code[j].b] else oneP p.fu p.fu.length := by
 have hn : b4r p (x.sites.getD o.toNat (0, 0)) = p.fu[f].code[j] := by
  rw [hx.sites, A5m, A5n h, A5z, e]
  simp [b4r, hf, A5m, hj]
 simp only [a2q, h0, if_true, hn]
theorem f0o (h0 : ¬ 0 < o) : a2q p x o = oneP p.fu p.fu.length := by
 simp [a2q, h0, ins0]
theorem c9f {fs : List FnD} (h : i < fs.length) (e : fs[i].params = 1) : oneP fs (i + 1) = oneP fs i ++ [(i : Int)] := by
 unfold oneP
 rw [A1p, A5x, A1s]
 have : a4d fs (i : Int) = 1 := by rw [a7p _ _ zl]; simpa using e
 simp [this]
theorem d7i {fs : List FnD} (h : i < fs.length) (e : ¬ fs[i].params = 1) : oneP fs (i + 1) = oneP fs i := by
 unfold oneP
 rw [A1p, A5x, A1s]
 have : ¬ a4d fs (i : Int) = 1 := by rw [a7p _ _ zl]; simpa using e
 simp [this]
theorem e9t (fs : List FnD) : oneP fs 0 = [] := rfl
theorem a8f (l : List Int) : nfs (ints l).flatten = true := by
 induction l with
 | nil => rfl
 | cons a l ih => simpa [ints, a0j, nfs, nf] using ih
theorem b0f (fs : List FnD) (i : Nat) : (oneP fs i).length <= i := by
 unfold oneP
 rw [A1l]
 exact A0a (A3y _ _) yd
theorem f2u (hp : VOk p) (hx : Gv.Form p x) (h0 : ¬ 0 < o) : PCn Tp Gl 156 [PA p, .agg [.list 2 (sits x.sites), .list 1 (lls x.regs), .list 1 (lays x.cells)], .int .i64 o] (.list 1 (ints (a2q p x o))) := by
 have hfu := f0o (p := p) (x := x) h0
 refine z2u Tryz.f156 [.tmp 6] 10 67 [] 0 ?_
 repeat' first
  | (refine yi ?_; refine a0e (σ := {i : Nat // i <= p.fu.length}) (fun y => [(9, .int .i64 (y.1 : Int)), (8, .sl [0, 1000] 1 0 (oneP p.fu y.1).length)]) [] (fun y => []) [] (fun y => [([0, 1000], .cells 3 1 (ints (oneP p.fu y.1)))]) (fun y => noH) (fun y => p.fu.length - y.1) ⟨0, by simp⟩ (gk3 (j := 0) [] (Bs.pc _) wz wz wz wz wz wz wz) ?_; rintro ⟨i, hi⟩; simp only [lpS, LPXB]; (try dsimp only at hi); rcases a0c hi with hlt | ⟨hlt, rfl⟩; have hnf := hp.nf; have wi := wli hlt ya; have hol := b0f p.fu i; have hs := szn (n := (oneP p.fu i).length + 1) (k := 8) ya yb; have hs2 : (oneP p.fu i).length + 1 <= 4611686018427387904 := ya; by_cases hq : (p.fu[i]'hlt).params = 1)
  | (refine ye ?_; refine a0b (⟨i + 1, by omega⟩) (gk3 (j := 0) [] (Bs.pc _) y13 y13 y13 y13 y13 y13 y13) yf)
  | (refine ye ?_; refine a0b (⟨i + 1, by omega⟩) (gk3 (j := 0) [] (Bs.pc _) y14 y14 y14 y14 y14 y14 y14) yf)
  | with_reducible first | refine a0n (id := 3) 18 a0d yc fun K hK => ?_ | refine dz5 ?_ | refine stpK ?_; intro K hK | refine stpC ?_; intro T E hT hE | refine stp2 ?_ ?_ <;> intro h | refine cpG (c2t hp hx _) ?_ | refine yg ?_; clear hK K | refine yh ?_; clear hT hE T E
  | simp [*, -List.all_flatten, -List.all_eq_true, yl, A0c, asR, a1d, a0w, FV.cellV, a0j, a8f]
 all_goals first
  | rfl
  | (simp [hfu, asR]; done)
theorem f2t (hp : VOk p) (hx : Gv.Form p x) (h0 : 0 < o) (h1 : o < ((a0a p).length : Int)) : PCn Tp Gl 156 [PA p, .agg [.list 2 (sits x.sites), .list 1 (lls x.regs), .list 1 (lays x.cells)], .int .i64 o] (.list 1 (ints (a2q p x o))) := by
 have hwr := c2t hp hx o
 rw [hx.sites] at hwr
 obtain ⟨hol0, f, hf, j, hj, es⟩ := d5m p h0 h1
 have hfu := f6b hx h0 hf hj hol0 es
 have es1 : ((a0a p)[o.toNat]'hol0).1 = (f : Int) := by rw [es]
 have es2 : ((a0a p)[o.toNat]'hol0).2 = (j : Int) := by rw [es]
 have hsi := hx.sites
 have hge : 0 <= o := by omega
 clear es
 by_cases q1 : (p.fu[f]'hf).code[j].op = 23
 rotate_left
 by_cases q2 : (p.fu[f]'hf).code[j].op = 24
 cases hw : wrR p x o
 all_goals
  refine z2u Tryz.f156 [.tmp 6] 10 67 [] 0 ?_
  repeat' first
   | (refine yi ?_; refine a0e (σ := {i : Nat // i <= p.fu.length}) (fun y => [(9, .int .i64 (y.1 : Int)), (8, .sl [0, 1000] 1 0 (oneP p.fu y.1).length)]) [] (fun y => []) [] (fun y => [([0, 1000], .cells 3 1 (ints (oneP p.fu y.1)))]) (fun y => noH) (fun y => p.fu.length - y.1) ⟨0, by simp⟩ (gk3 (j := 0) [] (Bs.pc _) wz wz wz wz wz wz wz) ?_; rintro ⟨i, hi⟩; simp only [lpS, LPXB]; (try dsimp only at hi); rcases a0c hi with hlt | ⟨hlt, rfl⟩; have hnf := hp.nf; have wi := wli hlt ya; have hol := b0f p.fu i; have hs := szn (n := (oneP p.fu i).length + 1) (k := 8) ya yb; have hs2 : (oneP p.fu i).length + 1 <= 4611686018427387904 := ya; by_cases hq : (p.fu[i]'hlt).params = 1)
   | (refine ye ?_; refine a0b (⟨i + 1, by omega⟩) (gk3 (j := 0) [] (Bs.pc _) y13 y13 y13 y13 y13 y13 y13) yf)
   | (refine ye ?_; refine a0b (⟨i + 1, by omega⟩) (gk3 (j := 0) [] (Bs.pc _) y14 y14 y14 y14 y14 y14 y14) yf)
   | with_reducible first | refine a0n (id := 3) 18 a0d yc fun K hK => ?_ | refine dz5 ?_ | refine stpK ?_; intro K hK | refine stpC ?_; intro T E hT hE | refine stp2 ?_ ?_ <;> intro h | refine cpG hwr ?_ | refine yg ?_; clear hK K | refine yh ?_; clear hT hE T E
   | simp [*, -List.all_flatten, -List.all_eq_true, yl, A0c, asR, a1d, a0w, FV.cellV, a0j, a8f]
  all_goals first
   | rfl
   | (simp [hfu, asR]; done)
theorem c5k (hp : VOk p) (hx : Gv.Form p x) (h1 : o < ((a0a p).length : Int)) : PCn Tp Gl 156 [PA p, .agg [.list 2 (sits x.sites), .list 1 (lls x.regs), .list 1 (lays x.cells)], .int .i64 o] (.list 1 (ints (a2q p x o))) := by
 by_cases h0 : 0 < o
 . exact f2t hp hx h0 h1
 . exact f2u hp hx h0
theorem d0o {H : Heap} {m : Nat} : ∀ (R S : List (List FV)), R.length = S.length -> (∀ i (h : i < R.length) (h' : i < S.length) (k : Nat), m <= k -> frzs H k R[i] = some S[i]) -> (nlss R = true -> R = S) -> ∀ k, R.length + m + 1 <= k -> frzR H k R = some S
 | [], [], _, _, _, k, hk => by
   obtain ⟨k, rfl⟩ : ∃ q, k = q + 1 := ⟨k - 1, by omega⟩
   simp [frzR, nlss]
 | [], _ :: _, h, _, _, _, _ => by simp at h
 | _ :: _, [], h, _, _, _, _ => by simp at h
 | r :: R, t :: S, hl, h, hn, k, hk => by
   obtain ⟨k, rfl⟩ : ∃ q, k = q + 1 := ⟨k - 1, by simp at hk; omega⟩
   have h0 : frzs H k r = some t := h 0 yd yd k (by simp at hk; omega)
   have ih := d0o (m := m) R S z1r (fun i h1 h2 q hq => h (i + 1) (by simpa using h1) (by simpa using h2) q hq)
   by_cases e : nlss (r :: R) = true
   . unfold frzR
     rw [if_pos e, hn e]
   . have hR : nlss R = true -> R = S := fun e' => by
      refine A0e z1r fun i h1 h2 => ?_
      have g := h (i + 1) (by simpa using h1) (by simpa using h2) (m + 1) ya
      simp only [A4v] at g
      have hnl : nls R[i] = true := by
       rw [a5b, c5w, List.all_eq_true] at e'
       rw [c5w, List.all_eq_true]
       exact fun v hv => e' v (A4p.2 ⟨_, A5p h1, hv⟩)
      have key : ∀ (q : Nat) (xs ys : List FV), nls xs = true -> frzs H q xs = some ys -> xs = ys := by
       intro q
       induction q with
       | zero => intro xs ys _ h; simp [frzs] at h
       | succ q ih =>
         intro xs ys hx h
         cases xs with
         | nil => simp [frzs] at h; exact h.symm
         | cons x xs =>
           simp only [nls, A5t] at hx
           simp only [frzs, A1h, A5q] at h
           obtain ⟨y, hy, zs, hzs, rfl⟩ := h
           rw [ih xs zs hx.2 hzs]
           congr 1
           cases q with
           | zero => simp [frz] at hy
           | succ q =>
             have hx1 := hx.1
             cases x <;> simp [nl] at hx1 <;> simp_all [frz, nl]
      exact key _ _ _ hnl g
     unfold frzR
     rw [if_neg e]
     simp only [h0, A2j, ih hR k (by simp at hk; omega), A0s]
theorem f6c (h : f < Y.regs.length) (k : Nat) (hk : 3 <= k) : frzs (HP L B (PF Y)) k [.sl [92, f] 1 0 Y.regs[f].length] = some [.list 1 (lays Y.regs[f])] := by
 obtain ⟨k, rfl⟩ : ∃ q, k = q + 3 := ⟨k - 3, by omega⟩
 simp [frzs, frz, c7j h, frzR, a0t, a1a, a2x]
theorem f6d {xs : List (List FV)} (h : nlss xs = true) (k : Nat) : frzR H (k + 1) xs = some xs := by unfold frzR; rw [if_pos h]
theorem c6i (hy : Gv.Form p Y) (k : Nat) (hk : p.fu.length + 10 <= k) : frz (HP L B (PF Y)) k (.agg [.list 2 (sits (a0a p)), .sl [91] 1 0 p.fu.length, .sl [93] 1 0 (a0a p).length]) = some (.agg [.list 2 (sits Y.sites), .list 1 (lls Y.regs), .list 1 (lays Y.cells)]) := by
 obtain ⟨k, rfl⟩ : ∃ q, k = q + 10 := ⟨k - 10, by omega⟩
 have h1 : frzR (HP L B (PF Y)) (k + 6) (rowN Y.regs) = some (lls Y.regs) := by
  refine d0o (m := 3) _ _ (by simp [a0y, a4x]) (fun i h h' q hq => ?_) (fun hn => ?_) _ (by rw [a0y, hy.rn]; omega)
  . rw [b6k h, c9r h']
    exact f6c (by rwa [a0y] at h) q hq
  . cases e : Y.regs with
    | nil => rfl
    | cons a r => rw [e] at hn; simp [rowN, nlss, nls, nl, A3n] at hn
 have e1 : (rowN Y.regs).take p.fu.length = rowN Y.regs := A6a (by rw [a0y, hy.rn]; exact A5s _)
 simp [frz, frzs, nls, nl, a1i, b8s, b1u, a0y, hy.rn, e1, h1, f6d, a0t, hy.cn, a1a, a2x, hy.sites, A6a]
def PR (R : List (List (List Int))) : Heap := fun l => match l with
 | [92, f] => (R[f]?).map fun r => .cells 36 1 (lays r)
 | _ => none
theorem a8z (R : List (List (List Int))) (k : Nat) (r : List Nat) (hk : k <= 91) : PR R (k :: r) = none := by
 unfold PR
 split
 . rename_i h; simp at h; omega
 . rfl
theorem b1s (R : List (List (List Int))) (r : List Nat) : PR R (93 :: r) = none := by
 unfold PR
 split
 . rename_i h; simp at h
 . rfl
theorem e2c : PR [] = noH := by
 funext l
 unfold PR
 split <;> rfl
theorem e2d (R : List (List (List Int))) (f : Nat) : PR R [92, f] = (R[f]?).map fun r => .cells 36 1 (lays r) := id (Eq.refl _)
structure BsC (B : Heap) : Prop where
 fr : ∀ k r, k <= 2 -> B (k :: r) = none
 f1 : ∀ r, B (91 :: r) = none
 f2 : ∀ r, B (92 :: r) = none
 f3 : ∀ r, B (93 :: r) = none
 clo : Clo B
 nd : ∀ l o, B l = some o -> o ≠ .dead
theorem BsC.bs (h : BsC B) (R : List (List (List Int))) : Bs (inH (HP [] B noH)) 2 B (PR R) := by
 refine ⟨h.fr, fun k r hk => a8z R k r ya, fun l o hl => ?_, fun l hl => ?_⟩
 . rw [a1m] at hl
   cases e : PR R l with
   | some o' =>
     rw [e] at hl
     obtain rfl := A5o hl
     unfold PR at e
     split at e
     . rw [A5q] at e
       obtain ⟨r, _, rfl⟩ := e
       have : ∀ (U : FM.Loc -> Prop) (L : List (List Int)), a1h U (lays L) := by
        intro U L
        induction L with
        | nil => trivial
        | cons a L ih => exact ⟨⟨a0g a, trivial⟩, ih⟩
       exact this _ _
     . cases e
   | none =>
     rw [e] at hl
     refine a1t (fun q hq => ?_) (h.clo l o hl)
     rw [a1m]
     cases PR R q <;> simp [hq]
 . have hl : HP [] B noH l ≠ none := hl
   have : HP [] B noH l = B l := rfl
   rw [this] at hl
   rw [a1m]
   cases PR R l <;> simp [hl]
theorem BsC.live (h : BsC B) (R : List (List (List Int))) : ∀ l, inH (HP [] B noH) l -> ∃ o, ext B (PR R) l = some o /\ o ≠ .dead := fun l hl => by
 have hl : HP [] B noH l ≠ none := hl
 obtain ⟨o, ho⟩ := A0x.1 hl
 have ho : B l = some o := ho
 have h0 : PR R l = none := by
  cases e : PR R l with
  | none => rfl
  | some o' =>
    unfold PR at e
    split at e
    . rename_i f; rw [h.f2] at ho; cases ho
    . cases e
 exact ⟨o, by rw [b7u h0]; exact ho, h.nd l o ho⟩
theorem BsC.bs0 (h : BsC B) : Bs (inH (HP [] B noH)) 2 B noH := by
 have := h.bs []
 rwa [e2c] at this
theorem BsC.live0 (h : BsC B) : ∀ l, inH (HP [] B noH) l -> ∃ o, ext B noH l = some o /\ o ≠ .dead := by
 have := h.live []
 rwa [e2c] at this
theorem g5i (hL : ∀ p ∈ L, p.1 ≠ [92, R.length]) : HP (([92, R.length], .cells 36 1 (lays r)) :: L) B (PR R) = HP L B (PR (R ++ [r])) := by
 funext k
 unfold HP
 rw [a1m, a1m]
 by_cases e : k = [92, R.length]
 . subst e
   rw [e2d, e2d]
   simp [updL, upd]
 . have : PR (R ++ [r]) k = PR R k := by
    unfold PR
    split
    . rename_i f
      have hf : f ≠ R.length := fun e' => e (by rw [e'])
      by_cases h1 : f < R.length
      . rw [A0f h1]
      . rw [A5y yz, A5y ya]
    . rfl
   rw [this]
   cases PR R k <;> simp [updL, upd, e]
theorem c8o {U : FM.Loc -> Prop} (R : List (List (List Int))) (hU : ∀ g, g < R.length -> U [92, g]) : a1h U (rowN R) := by
 have key : ∀ (xs : List (List FV)), (∀ r ∈ xs, ∃ g n, g < R.length /\ r = [.sl [92, g] 1 0 n]) -> a1h U xs := by
  intro xs
  induction xs with
  | nil => intro _; trivial
  | cons r xs ih =>
    intro h
    obtain ⟨g, n, hg, rfl⟩ := h r yd
    exact ⟨⟨hU g hg, trivial⟩, ih fun r hr => h r (by simp [hr])⟩
 refine key _ fun r hr => ?_
 obtain ⟨i, hi, rfl⟩ := A0g hr
 rw [b6k hi]
 exact ⟨i, _, by rwa [a0y] at hi, rfl⟩
theorem c8v {β : FM.Loc -> Option FM.Loc} {R : List (List (List Int))} (h : ∀ g, g < R.length -> β [92, g] = some [92, g]) : renss β (rowN R) = rowN R :=
 a9i (U := fun l => ∃ g, g < R.length /\ l = [92, g]) (c8o R fun g hg => ⟨g, hg, rfl⟩) fun l ⟨g, hg, e⟩ => by rw [e]; exact h g hg
theorem e5y {β : FM.Loc -> Option FM.Loc} {U : FM.Loc -> Prop} (h : ∀ g, g < R.length -> β [92, g] = some [92, g]) (hU : ∀ g, g < R.length -> U [92, g]) : a3z β U (rowN R) :=
 a9s (U := fun l => ∃ g, g < R.length /\ l = [92, g]) (c8o R fun g hg => ⟨g, hg, rfl⟩) (fun l ⟨g, hg, e⟩ => by rw [e]; exact h g hg) (fun l ⟨g, hg, e⟩ => by rw [e]; exact hU g hg)
theorem d0b {β : FM.Loc -> Option FM.Loc} {L : LF} {B : Heap} {R : List (List (List Int))} (h : ∀ g, g < R.length -> β [92, g] = some [92, g]) : a3z β (inH (HP L B (PR R))) (rowN R) :=
 e5y h fun g hg => by
  show HP L B (PR R) [92, g] ≠ none
  rw [a5q (ob := .cells 36 1 (lays R[g])) (by rw [e2d, A5n hg]; rfl)]; simp
theorem f5y {r : List Nat} {sz : Nat} {xs : List (List FV)} (R : List (List (List Int))) (h : k ≠ 92) : fzss (k :: r) sz xs (rowN R) = rowN R :=
 c1n (U := fun l => ∃ g, l = [92, g]) (fun ⟨g, e⟩ => h (by simp at e; exact e.1)) (c8o R fun g _ => ⟨g, rfl⟩)
theorem a6a (β : FM.Loc -> Option FM.Loc) (xs ys : List (List FV)) : renss β (xs ++ ys) = renss β xs ++ renss β ys := by
 induction xs with
 | nil => rfl
 | cons x xs ih => simp [renss, ih]
theorem a6d (β : FM.Loc -> Option FM.Loc) (U : FM.Loc -> Prop) (xs ys : List (List FV)) : a3z β U (xs ++ ys) ↔ a3z β U xs /\ a3z β U ys := by
 induction xs with
 | nil => simp [a3z]
 | cons x xs ih => simp [a3z, ih, and_assoc]
theorem f1d {g : Nat} (hg : g < f) : (fun x : FM.Loc => if x = [92, f] then k0 else if x = 2 :: l1 then k1 else some x) [92, g] = some [92, g] := by
 have : g ≠ f := by omega
 simp [this]
theorem d6n (hR : R.length <= f) : renss (fun x => if x = [92, f] then k0 else if x = 2 :: l1 then k1 else some x) (rowN R) = rowN R := c8v fun g hg => f1d ya
theorem d8p (hR : R.length <= f) : a3z (fun x => if x = [92, f] then k0 else if x = 2 :: l1 then k1 else some x) (inH (HP L B (PR R))) (rowN R) := d0b fun g hg => f1d ya
theorem d6b (h : i < R.length) : rowN (R.take (i + 1)) = rowN (R.take i) ++ [[.sl [92, i] 1 0 R[i].length]] := by
 have e : R.take (i + 1) = R.take i ++ [R[i]] := by rw [A0y, A5n h]; rfl
 rw [e, d6c, A0j, A0w ya]
theorem c2s {α : Type} {R : List α} (h : i < R.length) : R.take (i + 1) = R.take i ++ [R[i]] := by rw [A0y, A5n h]; rfl
theorem h0l (hB : BsC B) (h91 : updL L B [91] = some (.cells 24 1 (rowN x.regs))) (h93 : updL L B [93] = some (.cells 36 1 (lays x.cells))) (hL : ∀ p ∈ L, p.1 = [91] \/ p.1 = [93] \/ ∃ r, p.1 = 2 :: r) : HSub (HP [] B (PF x)) (HP L B (PR x.regs)) := by
 intro k o hk
 unfold HP at hk ⊢
 rw [a1m] at hk ⊢
 by_cases e1 : k = [91]
 . subst e1
   rw [c7i] at hk
   rw [a8z _ _ _ yb]
   exact h91.trans hk
 by_cases e3 : k = [93]
 . subst e3
   rw [c7h] at hk
   rw [b1s]
   exact h93.trans hk
 have e : PF x k = PR x.regs k := by
  unfold PF PR
  split
  . exact absurd rfl e1
  . rfl
  . exact absurd rfl e3
  . rename_i h1 h2 h3
    split
    . rename_i f; first | exact absurd rfl (h1 f) | exact absurd rfl (h2 f) | exact absurd rfl (h3 f)
    . rfl
 rw [e] at hk
 cases h : PR x.regs k with
 | some o' => rw [h] at hk; exact hk
 | none =>
   rw [h] at hk
   have hk : B k = some o := hk
   show updL L B k = some o
   rw [a3i fun p hp e' => ?_]
   . exact hk
   . rcases hL p hp with h | h | ⟨r, h⟩
     . exact e1 (e'.symm.trans h)
     . exact e3 (e'.symm.trans h)
     . rw [<- e', h, hB.fr 2 r yb] at hk
       cases hk
theorem b3i (U : FM.Loc -> Prop) (L : List (List Int)) : a1h U (lays L) := by
 induction L with
 | nil => trivial
 | cons a L ih => exact ⟨⟨a0g a, trivial⟩, ih⟩
theorem e1b (x : Pts) (hB : ∀ l o, B l = some o -> ninO (fun l => ext B (PF x) l ≠ none) o) : Clo (ext B (PF x)) := fun l o hl => by
 rw [a1m] at hl
 cases e : PF x l with
 | some o' =>
   rw [e] at hl
   obtain rfl := A5o hl
   have h92 : ∀ g, g < x.regs.length -> ext B (PF x) [92, g] ≠ none := fun g hg => by
    rw [a6h (ob := .cells 36 1 (lays x.regs[g])) (by rw [e8e, A5n hg]; rfl)]; simp
   unfold PF at e
   split at e
   . obtain rfl := A5o e
     exact c8o x.regs h92
   . rw [A5q] at e
     obtain ⟨r, _, rfl⟩ := e
     exact b3i _ _
   . obtain rfl := A5o e
     exact b3i _ _
   . cases e
 | none =>
   rw [e] at hl
   exact hB l o hl
theorem e7q (hB : BsC B) (h91 : updL L B [91] = some (.cells 24 1 (rowN x.regs))) (h93 : updL L B [93] = some (.cells 36 1 (lays x.cells))) (hL : ∀ p ∈ L, p.1 = [91] \/ p.1 = [93] \/ ∃ r, p.1 = 2 :: r) :
 LFin (HP [] B noH) (fun r1 H1 => r1 = .agg [.list 2 (sits x.sites), .sl [91] 1 0 x.regs.length, .sl [93] 1 0 x.cells.length] /\ H1 = HP [] B (PF x)) (HP L B (PR x.regs)) (some [.agg [.list 2 (sits x.sites), .sl [91] 1 0 x.regs.length, .sl [93] 1 0 x.cells.length]]) := by
 have hup : ∀ l, B l ≠ none -> ext B (PF x) l ≠ none := fun l hl => by
  rw [a1m]
  cases PF x l <;> simp [hl]
 refine ⟨HP [] B (PF x), ⟨rfl, rfl⟩, h0l hB h91 h93 hL, fun l hl => hup l hl, ?_, ?_⟩
 . refine ⟨a1i _, ?_, ?_, trivial⟩
   . show HP [] B (PF x) [91] ≠ none
     rw [b8s]; simp
   . show HP [] B (PF x) [93] ≠ none
     rw [b1u]; simp
 . exact e1b x fun l o ho => a1t hup (hB.clo l o ho)
theorem f5v {σ : Type} {vs0 : List FV} {tm0 : Asg} {L0 : LF} {sv : σ -> List (Nat × FV)} {kt : List Nat} {st : σ -> Asg} {dl : List FM.Loc} {sh : σ -> LF} {fA : σ -> Heap} {x : σ} (f : Nat) (k0 : FM.Loc) (b : List (FM.Loc × Option FM.Loc)) (R : List (List (List Int))) (row : List (List Int)) (hB : BsC B) (hc : c.L = inH (HP [] B noH)) (hf : R.length = f)
 (hfA : fA x = PR (R ++ [row])) (hn : hdN 2 ((a2n (sh x) (delL dl L0)).map Prod.fst ++ k0 :: b.map Prod.fst ++ b.filterMap Prod.snd) = true) (hl : hdN 2 (L.map Prod.fst) = true)
 (hinj : injB (bk (([92, f], some k0) :: b)) ([92, f] :: (a2n (sh x) (delL dl L0)).map Prod.fst) = true)
 (hv : a7m (bk (([92, f], some k0) :: b)) (inH (HP (([92, f], .cells 36 1 (lays row)) :: a2n (sh x) (delL dl L0)) B (PR R))) (setV (sv x) vs0) vs)
 (ht : simT (bk (([92, f], some k0) :: b)) (inH (HP (([92, f], .cells 36 1 (lays row)) :: a2n (sh x) (delL dl L0)) B (PR R))) vs.length tm (st x ++ a6s kt tm0))
 (hH : simH (bk (([92, f], some k0) :: b)) (inH (HP (([92, f], .cells 36 1 (lays row)) :: a2n (sh x) (delL dl L0)) B (PR R))) (HP L B (PR R)) (([92, f], .cells 36 1 (lays row)) :: a2n (sh x) (delL dl L0))) : Gk c (lpS vs0 tm0 L0 B sv kt st dl sh fA x) ⟨vs, tm, HP L B (PR R), ix⟩ := by
 have hb := hB.bs R
 have fr : ∀ r, ext B (PR R) (2 :: r) = none := fun r => a0s.2 ⟨a8z R 2 r yb, hB.fr 2 r yb⟩
 have hd := a4z hn
 have h92 : ext B (PR R) [92, f] = none := a0s.2 ⟨by rw [e2d, A5y ya]; rfl, hB.f2 _⟩
 subst hf
 refine gk5 (L1 := ([92, R.length], .cells 36 1 (lays row)) :: a2n (sh x) (delL dl L0)) (([92, R.length], some k0) :: b) ?_ hinj (fun n hn' => ?_) (fun p hp => ?_) hb.clo (fun l hl' => hb.lent l (by rw [<- hc]; exact hl')) hv ht hH
 . rw [hfA]
   refine g5i fun p hp e => ?_
   obtain ⟨r, hr⟩ := hd p.1 z2t
   rw [e] at hr
   simp at hr
 . simp only [A1m, A4i, A0o, A0m] at hn'
   rcases hn' with (((rfl | h) | (rfl | h)) | (e0 | h))
   . exact h92
   . obtain ⟨r, rfl⟩ := hd n (A1o _ (A1o _ h)); exact fr r
   . exact h92
   . obtain ⟨r, rfl⟩ := hd n (A1o _ (A2f _ (A2t _ h))); exact fr r
   . obtain ⟨r, rfl⟩ := hd n z44; exact fr r
   . obtain ⟨r, rfl⟩ := hd n (A2f _ h); exact fr r
 . obtain ⟨r, hr⟩ := a4z hl p.1 (A1t.2 ⟨p, hp, rfl⟩)
   rw [hr]; exact fr r
theorem gk5S {σ : Type} {vs0 : List FV} {tm0 : Asg} {L0 : LF} {sv : σ -> List (Nat × FV)} {kt : List Nat} {st : σ -> Asg} {dl : List FM.Loc} {sh : σ -> LF} {fA : σ -> Heap} {x : σ} (b : List (FM.Loc × Option FM.Loc)) (hA : fA x = A) (hcl : Clo (ext B A)) (hc : ∀ l, c.L l -> ext B A l ≠ none)
 (hN : ∀ n ∈ (a2n (sh x) (delL dl L0)).map Prod.fst ++ b.map Prod.fst ++ b.filterMap Prod.snd, ext B A n = none) (hl : ∀ p ∈ L, ext B A p.1 = none) (hinj : injB (bk b) ((a2n (sh x) (delL dl L0)).map Prod.fst) = true)
 (hv : a7m (bk b) (inH (HP (a2n (sh x) (delL dl L0)) B A)) (setV (sv x) vs0) vs) (ht : simT (bk b) (inH (HP (a2n (sh x) (delL dl L0)) B A)) vs.length tm (st x ++ a6s kt tm0))
 (hH : simH (bk b) (inH (HP (a2n (sh x) (delL dl L0)) B A)) (HP L B A) (a2n (sh x) (delL dl L0))) : Gk c (lpS vs0 tm0 L0 B sv kt st dl sh fA x) ⟨vs, tm, HP L B A, ix⟩ :=
 gk5 (L1 := a2n (sh x) (delL dl L0)) b (by rw [hA]) hinj hN hl hcl hc hv ht hH
theorem b9j (l0 : FM.Loc) (T0 : TypeId) (sz0 : Nat) (xs0 : List (List FV)) (hcl : Clo (ext B A)) (hnd : ∀ l, c.L l -> ∃ o, ext B A l = some o /\ o ≠ .dead) (hfr : ∀ n ∈ l0 :: L.map Prod.fst, ext B A n = none)
 (hl : HP L B A l0 = some (.cells T0 sz0 xs0)) (hn : nlss xs0 = true) : Gk c (Fs.mk (fzs l0 sz0 xs0 vs) (fzT l0 sz0 xs0 tm) (HP (fzL l0 sz0 xs0 L) B A) ix) ⟨vs, tm, HP L B A, ix⟩ := by
 have h0 := hfr l0 yd
 have hL : ∀ p ∈ L, ext B A p.1 = none := fun p hp => hfr p.1 z41
 rw [<- d9s hcl h0 L hL]
 refine f0j l0 T0 sz0 xs0 (fun l hc => ?_) hl hn
 obtain ⟨o, ho, hd⟩ := hnd l hc
 refine ⟨fun e => (by rw [e, h0] at ho; cases ho), o, ?_, hd⟩
 rw [show HP L B A = ext (hpL L) (ext B A) from b5a hL]
 exact a6h ho
theorem bk_n : bk [] = fun x => some x := rfl
theorem bk_c (k : FM.Loc) (o : Option FM.Loc) (r : List (FM.Loc × Option FM.Loc)) : bk ((k, o) :: r) = fun x => if x = k then o else bk r x := rfl
def z0t := cj @SIMB (cj @bk_n @bk_c)
def z1u := cj @a0y (cj @d0e (cj @c8v (cj @d0b @f5y)))
def z1v := cj @a9a (cj @b1s (cj @a8z @a0q))
theorem f2z (hx : PtB 2000000 x) (hB : BsC B) : FC Tp Gl 27 [.agg [.list 2 (sits x.sites), .list 1 (lls x.regs), .list 1 (lays x.cells)]] (HP [] B noH) (.agg [.list 2 (sits x.sites), .sl [91] 1 0 x.regs.length, .sl [93] 1 0 x.cells.length]) (HP [] B (PF x)) := by
 have hxs := hx.s
 have hq1 := szn (n := x.sites.length) (k := 16) ya yb
 have hq2 : x.sites.length <= 4611686018427387904 := by omega
 refine yv Tryz.f27 [.cell 2 49] 8 69 [] 2 ?_
 repeat' first
  | (refine yi ?_; refine a0e (σ := {f : Nat // f <= x.regs.length}) (fun y => [(4, .int .i64 (y.1 : Int)), (5, .undef), (6, .undef)]) [] (fun y => []) [[2, 11]] (fun y => [([2, 3], .cells 49 3 [[.list 2 (sits x.sites), .sl [2, 1000] 1 0 y.1, .nils]]), ([2, 1000], .cells 24 1 (rowN (x.regs.take y.1)))]) (fun y => PR (x.regs.take y.1)) (fun y => x.regs.length - y.1) ⟨0, by simp⟩ (Gk.trans (gk3i (j := 2) [([2, 1000], none)] (hB.bs _) y62 y62 y62 y62 y62 y62 y62) (d9i (j := 2) [2, 11] 98 2 (sits x.sites) hB.bs0 hB.live0 yn z2x z2x)) ?_; rintro ⟨f, hf⟩; simp only [lpS, LPXB]; (try dsimp only at hf); rcases a0c hf with hlt | ⟨hlt, rfl⟩; have wi := wli hlt (A0a hx.r yb); have hil := A2e hlt; have hrr := hx.rr _ (A5p hlt); have hxr := hx.r; have hs4 := szn (n := f + 1) (k := 24) ya yb; have hs5 : f + 1 <= 4611686018427387904 := ya)
  | (refine yi ?_; refine a0e (σ := {r : Nat // r <= (x.regs[f]'hlt).length}) (fun y => [(5, .sl [2, 1001] 1 0 y.1), (6, .int .i64 (y.1 : Int))]) [] (fun y => []) [] (fun y => [([2, 1001], .cells 36 1 (lays ((x.regs[f]'hlt).take y.1)))]) (fun y => PR (x.regs.take f)) (fun y => (x.regs[f]'hlt).length - y.1) ⟨0, by simp⟩ (gk3i (j := 2) [] (hB.bs _) y63 y63 y63 y63 y63 y63 y63) ?_; rintro ⟨r, hr⟩; simp only [lpS, LPXB]; (try dsimp only at hr); rcases a0c hr with hlr | ⟨hlr, rfl⟩; have wr := wli hlr (A0a hrr yb); have hs0 := hx.rs _ (A5p hlt) _ (A5p hlr); have hy3 := szn (n := ((x.regs[f]'hlt)[r]'hlr).length) (k := 8) ya yb; have hy4 : ((x.regs[f]'hlt)[r]'hlr).length <= 4611686018427387904 := ya; have hz := szn (n := r + 1) (k := 24) ya yb; have hz2 : r + 1 <= 4611686018427387904 := ya; have hrl := A2e hlr)
  | (refine yi ?_; refine a0e (σ := {i : Nat // i <= x.cells.length}) (fun y => [(7, .int .i64 (y.1 : Int)), (5, .undef), (6, .undef), (4, .undef)]) [] (fun y => []) [[2, 1000], [2, 8], [2, 1001]] (fun y => [([2, 3], .cells 49 3 [[.list 2 (sits x.sites), .sl [91] 1 0 x.regs.length, .sl [93] 1 0 y.1]]), ([91], .cells 24 1 (rowN x.regs)), ([93], .cells 36 1 (lays (x.cells.take y.1)))]) (fun y => PR x.regs) (fun y => x.cells.length - y.1) ⟨0, by simp⟩ (gk5S [([91], some [2, 1000]), ([93], none)] yd (hB.bs _).clo (hB.bs _).lent y64 y64 yy y65 y65 y65) ?_; rintro ⟨i, hi⟩; simp only [lpS, LPXB]; (try dsimp only at hi); rcases a0c hi with hlc | ⟨hlc, rfl⟩; have wc := wli hlc (A0a hx.c yb); have hs0 := hx.cs _ (A5p hlc); have hy3 := szn (n := (x.cells[i]'hlc).length) (k := 8) ya yb; have hy4 : (x.cells[i]'hlc).length <= 4611686018427387904 := ya; have hxc := hx.c; have hz := szn (n := i + 1) (k := 24) ya yb; have hz2 : i <= 4611686018427387903 := ya; have hrl := A2e hlc; rotate_left; have hlx := A0c (l := x.cells); rotate_left)
  | (refine ye ?_; refine a0b ⟨r + 1, by omega⟩ (Gk.trans (gk3i (j := 2) [] (hB.bs _) y66 y66 y66 y66 y66 y66 y66) (d9i (j := 2) [2, 40] 3 1 (ints ((x.regs[f]'hlt)[r]'hlr)) (hB.bs _) (hB.live _) yn z2x z2x)) yf)
  | (refine ye ?_; refine a0b ⟨f + 1, by omega⟩ (f5v f [2, 1001] [([2, 1000], some [2, 47])] (x.regs.take f) (x.regs[f]'hlt) hB rfl z2n (by rw [<- c2s hlt]) yn yn yy y67 y67 y67) yf)
  | (refine ye ?_; refine a0b ⟨i + 1, by omega⟩ (Gk.trans (gk5S [([93], some [2, 66])] rfl (hB.bs _).clo (hB.bs _).lent y64 y64 yy y68 y68 y68) (b9j [2, 64] 3 1 (ints (x.cells[i]'hlc)) (hB.bs _).clo (hB.live _) (by simp [a8z, b1s, hB.fr, hB.f1, hB.f3, a0s, LPXB, *, SIMB]) z49 z49)) yf)
  | (with_reducible refine b9t (id := 14) [[93]] 12 a0d yc fun K hK => ?_)
  | (refine b8i (j := 9) (e := 36) (x := .tmp 57) (y := .tmp 65) (t := 24) (tx := 24) (Aj := upd noH [2, 65] (.cells 36 1 [[.sl [2, 64] 1 0 (x.cells[i]'hlc).length]])) [93] [2, 65] (.cells 36 1 (lays (x.cells.take i))) (.cells 36 1 [[.sl [2, 64] 1 0 (x.cells[i]'hlc).length]]) 1 (lays (x.cells.take i) ++ [[.sl [2, 64] 1 0 (x.cells[i]'hlc).length]]) (.sl [2, 66] 1 0 (i + 1)) yb yc ?_ z1f rfl (A5l rfl) ?_ yc ?_ ?_ ?_ yb ?_ ?_ ?_ ?_; (focus (exact rfl)); (focus (first | rfl | simp)); (iterate 5 (focus (first | rfl | simp [*, SIMB, rmvs, rmv, a2r]))); (focus (simp [*, -List.all_flatten, -List.all_eq_true, yl, asR, rmvs, rmv, a2r, FV.cellV, a0w, a6j, A1c, A2d, a1j, A0c, A0j, A0w, A2e, a0y, a8z, b1s, a9a, a0j, a0v, a6r, a7l, a2x, a1d, hB.fr, hB.f1, hB.f2, hB.f3])))
  | with_reducible first | refine e7q hB ?_ ?_ ?_ | refine z4l ?_ | refine stpK ?_; intro K hK | refine stpC ?_; intro T E hT hE | refine stp2 ?_ ?_ <;> intro h | refine yg ?_; clear hK K | refine yh ?_; clear hT hE T E
  | simp [*, -List.all_flatten, -List.all_eq_true, yl, asR, rmvs, rmv, a2r, FV.cellV, a0w, a6j, A1c, A2d, a1j, A0c, A0j, A0w, A2e, a0y, a8z, b1s, a9a, a0j, a0v, a6r, a7l, a2x, a1d, hB.fr, hB.f1, hB.f2, hB.f3]
 all_goals first
  | (simp [yw]; done)
theorem c5e (hp : VOk p) (hy : Gv.Form p Y) (hB : BsP p 1 B) {s : List Int} (hl : ∀ o ∈ l, 0 <= o /\ o < ((a0a p).length : Int)) (hs : ∀ o ∈ s, 0 <= o /\ o < ((a0a p).length : Int)) (hll : l.length <= 64001) (hsl : s.length <= 64001) : FC Tp Gl 154 [.agg [.list 2 (sits (a0a p)), .sl [91] 1 0 p.fu.length, .sl [93] 1 0 (a0a p).length], .list 1 (ints l), .list 1 (ints s)] (HP [] B (PF Y)) (.tup []) (HP [] B (PF (a3f Y l s))) := by
 have hsv := a0h hp
 have fB := (hB _ _ hy hy).fb
 have nB : ∀ r, B (1 :: r) = none := fun r => fB 1 r yb
 refine yv Tryz.f154 [] 7 30 [] 1 ?_
 repeat' first
  | (refine yi ?_; refine a0e (σ := {i : Nat // i <= l.length}) (fun y => [(6, .int .i64 (y.1 : Int))]) [] (fun y => []) [] (fun y => []) (fun y => PF (a3f Y (l.take y.1) s)) (fun y => l.length - y.1) ⟨0, by simp⟩ (gk3 (j := 1) [] (hB _ _ hy (a4u hy hl hs _)) y69 y69 y69 y69 y69 y69 y69) ?_; rintro ⟨i, hi⟩; simp only [lpS, LPXB]; (try dsimp only at hi); rcases a0c hi with hlt | ⟨hlt, rfl⟩; have wi := wli hlt ya; have hZ := a4u hy hl hs i; have hlo := hl _ (A5p hlt); have hcl := hZ.cn; have hco : ((l[i]'hlt)).toNat < (a3f Y (l.take i) s).cells.length := ya; have hu := c5f ((a3f Y (l.take i) s).cells[((l[i]'hlt)).toNat]'hco) s ya (fun k hk => A0a (c7u (hZ.cs _ (A5p hco)) hs k) ya); have ha := d1p (a3f Y (l.take i) s) (l[i]'hlt) s rfl hco; have hw := c4z (y := Y) (s := s) hlt; rotate_left; have htl := A0c (l := l); rotate_left)
  | (refine ye ?_; refine a0b (⟨i + 1, by omega⟩) (gk3 (j := 1) [] (hB _ _ hy (a4u hy hl hs _)) y70 y70 y70 y70 y70 y70 y70) yf)
  | ((with_reducible refine b8o (j := 1) (hB _ _ hy (by have := a4u hy hl hs l.length; rwa [htl] at this)) ?_ ?_ ?_ ?_); (iterate 2 (focus rfl)); (focus (first | rfl | (simp [*]; done))); focus (first | trivial | (simp [nin, nins, a0p, inH, HPXB]; done)))
  | with_reducible first | refine a0n (id := 4) 17 a0d yc fun K hK => ?_ | refine dz5 ?_ | refine stpK ?_; intro K hK | refine stpC ?_; intro T E hT hE | refine stp2 ?_ ?_ <;> intro h | refine cpG hu ?_ | refine yg ?_; clear hK K | refine yh ?_; clear hT hE T E
  | simp [*, -List.all_flatten, -List.all_eq_true, zo, a0p, e2l]
section
variable {P : Program} {c : Cfg} {ops : Array Oper} {n k : Nat} {K : Fs -> Prop} {H0 Hn : Heap} {rs : List FM.Loc} {o : Oper} {rest : List Oper} {s : Fs} {As : List Heap} {f : FuncId} {A : List FV} {r : FV}
theorem hfc0 (hfc : ∀ H2, HSub Hn H2 -> FC P c.G f A H2 r H2) (h : HNx P c ops n K H0 rs k o rest s As (some (r, noH))) : HCl P c ops n K H0 rs k o rest s As Hn f true A :=
 ⟨rfl, r, noH, fun H2 h1 _ => by rw [a3r]; exact hfc H2 h1, h⟩
theorem hfc1 (l0 : FM.Loc) (ob : FO) (hfc : ∀ H2, HSub Hn H2 -> H2 l0 = none -> FC P c.G f A H2 r (upd H2 l0 ob)) (h : HNx P c ops n K H0 rs k o rest s As (some (r, upd noH l0 ob))) : HCl P c ops n K H0 rs k o rest s As Hn f true A :=
 ⟨rfl, r, upd noH l0 ob, fun H2 h1 h2 => by rw [e7g]; exact hfc H2 h1 (h2 l0 z1a), h⟩
theorem c2i (d j : Nat) (l0 : FM.Loc) (ob : FO) (hdst : o.dst = some d) (hrs : rs = []) (hk : k < n) (hd : b1q ops n k o = true) (hj : As[j]? = some (upd noH l0 ob)) (hw : a2z o j = true)
 (h : HG P c ops n K H0 rs k o rest s As (upd noH l0 ob) (a0x ops o s)) : awH P c ops n K H0 rs k (o :: rest) s As := by
 subst hrs
 refine f7u (upd noH l0 ob) (fun l h => by cases h) hk hd (fun l ob' hl => .inr ⟨j, _, hj, hw, hl⟩) h
end
theorem a3u {a : Int} {S : List Int} (h1 : i < Y.regs.length) (h2 : a.toNat < Y.regs[i].length) : addR Y i a S = ⟨Y.sites, Y.regs.set i (Y.regs[i].set a.toNat (a1s Y.regs[i][a.toNat] S)), Y.cells⟩ := by
 simp [addR, setR, rg, A5m, h1, h2]
theorem b8m (hp : VOk p) {b : List Int} (ha : okS (a0a p).length a) (hb : okS (a0a p).length b) : Pq 152 [.list 1 (ints a), .list 1 (ints b)] (.list 1 (ints (a1s a b))) := by
 have := a0h hp
 exact c5f a b (A0a (a7q hb) ya) fun k hk => A0a (c7u ha hb.2 k) ya
theorem g6f (hp : VOk p) (ha : okS (a0a p).length a) (ho : 0 <= o /\ o < ((a0a p).length : Int)) (hH : H lb = some (.cells T 1 [[.int .i64 o]])) : FC Tp Gl 152 [.list 1 (ints a), .sl lb 1 0 1] H (.list 1 (ints (a1s a [o]))) H := by
 have := a0h hp
 exact e3h a [o] hH yd fun k hk => A0a (c7u ha (fun x hx => by simp at hx; subst hx; exact ho) k) ya
theorem c7z (hp : VOk p) (ha : okS (a0a p).length a) (ho : 0 <= o /\ o < ((a0a p).length : Int)) : ∀ H2, HSub (upd noH lb (.cells T 1 [[.int .i64 o]])) H2 -> FC Tp Gl 152 [.list 1 (ints a), .sl lb 1 0 1] H2 (.list 1 (ints (a1s a [o]))) H2 :=
 fun _ hs => g6f (T := T) hp ha ho (hs _ _ z1a)
theorem e2e {y' : Pts} (hy : Gv.Form p y) (hy' : Gv.Form p y') (l : FM.Loc) (h : PF y l ≠ none) : PF y' l ≠ none := by
 unfold PF at h ⊢
 split at h
 . simp
 . rename_i f
   have : f < y.regs.length := by
    rcases A0r f y.regs.length with h' | h'
    . exact h'
    . rw [A5y h'] at h; exact absurd rfl h
   rw [A5n (by rw [hy'.rn, <- hy.rn]; exact this)]; simp
 . simp
 . exact absurd rfl h
theorem BsP.call {p : Pg} {i j : Nat} {B : Heap} (hB : BsP p j B) (hi : i < j) {L : LF} {Y : Pts} (hy : Gv.Form p Y) (hl : hdN j (L.map Prod.fst) = true) (ho : ninL (inH (HP L B (PF Y))) L) : BsP p i (updL L B) := fun y y' h h' => by
 have e : ∀ l, inH (HP L B (PF Y)) l -> inH (HP L B (PF y')) l := fun l hl' => by
  intro hn
  refine hl' ?_
  rw [a2c] at hn ⊢
  refine ⟨?_, hn.2⟩
  cases e : PF Y l with
  | none => rfl
  | some o => exact absurd hn.1 (e2e hy h' l z1e)
 have ho' : ninL (fun l => HP L B (PF y') l ≠ none) L := by
  have key : ∀ (L' : LF), ninL (inH (HP L B (PF Y))) L' -> ninL (fun l => HP L B (PF y') l ≠ none) L' := by
   intro L'
   induction L' with
   | nil => exact fun h => h
   | cons q L' ih => exact fun h => ⟨a1t e h.1, ih h.2⟩
  exact key L ho
 exact Bs.call (L := L) (B := B) (A := PF y) i (hB y y' h h') hi hl ho' fun l hl' => e2e h h' l hl'
theorem a1o (hp : VOk p) (hy : Gv.Form p Y) (hi : i < p.fu.length) (hj : j < p.fu[i].code.length) : Gv.Form p (a1e p i j p.fu[i].code[j] Y) :=
 ((d9j hp hi j (A5p hj)).1 Y hy).1
theorem c0a (hp : VOk p) (hy : Gv.Form p Y) (hl : okS (a0a p).length l) {Hn : Heap} (h93 : Hn [93] = some (.cells 36 1 (lays Y.cells))) : ∀ H2, HSub Hn H2 -> H2 [1, 2] = none -> FC Tp Gl 155 [.agg [.list 2 (sits (a0a p)), .sl [91] 1 0 p.fu.length, .sl [93] 1 0 (a0a p).length], .list 1 (ints l)] H2 (.list 1 (ints (a6b Y l))) (upd H2 [1, 2] (.cells 49 3 [[.list 2 (sits (a0a p)), .sl [91] 1 0 p.fu.length, .sl [93] 1 0 (a0a p).length]])) := fun H2 hs h0 => by
 have := a0h hp
 exact f9i hp hy (hs _ _ h93) h0 hl.2 (A0a (a7q hl) this)
def hdLe (j : Nat) (ns : List FM.Loc) : Bool := ns.all fun n => match n with | k :: _ => decide (k <= j) | [] => false
theorem e6f {ns : List FM.Loc} (h : hdLe j ns = true) : ∀ n ∈ ns, ∃ k r, n = k :: r /\ k <= j := fun n hn => by
 have := List.all_eq_true.1 h n hn
 match n with
 | [] => simp at this
 | k :: r => exact ⟨k, r, rfl, by simpa using this⟩
theorem a8x {H' : Heap} {l : List FV} {r : FV} (hb : Bs (inH H) j B A) (hl : hdLe j (L.map Prod.fst) = true) (hr : a0p l = r) (hH : HP [] B A = H') (hn : nin (inH (HP [] B A)) (a0p l)) : LFin H (fun r1 H1 => r1 = r /\ H1 = H') (HP L B A) (some l) := by
 refine ⟨HP [] B A, ⟨hr, hH⟩, ?_, hb.lent, hn, hb.clo⟩
 refine HSub.ext' fun k o hk => ?_
 have hk : B k = some o := hk
 rw [a3i fun p hp e => ?_]
 . exact hk
 . obtain ⟨q, r, hr, hq⟩ := e6f hl p.1 (A1t.2 ⟨p, hp, rfl⟩)
   rw [<- e, hr, hb.fb q r hq] at hk
   cases hk
section
variable {P : Program} {c : Cfg} {ops : Array Oper} {K : Fs -> Prop} {o : Oper} {rest : List Oper} {s : Fs}
theorem a3d {f : FuncId} {A : List FV} {r : FV} {H' : Heap} {Af : Heap} (hs : s.H = HP L B Af) (hfc : FC P c.G f A (HP [] (updL L B) Af) r H') (h : StK P c ops rest K (putD c o r { s with H := H' })) : a9b P c ops o rest K s f true A :=
 ⟨rfl, r, H', by rw [hs]; exact hfc, h⟩
end
theorem c9e {f : FnD} {v : Int} (h : opR p f n 99 v = true) : v < f.regs /\ (n.b = 0 \/ 0 <= v) := by
 simp [opR] at h
 exact ⟨h.1.2, h.2⟩
theorem d3o (k : Nat) : b4t Y i n o (k + 1) = addC (b4t Y i n o k) o (rg (b4t Y i n o k) i (n.a + (k + 1))) := by
 unfold b4t
 rw [A1p, A0z]
 rfl
theorem b7z (hy : Gv.Form p Y) (ho : 0 <= o /\ o < ((a0a p).length : Int)) (k : Nat) : Gv.Form p (b4t Y i n o k) := ((d9m (i := i) (n := n) ho k).1 Y hy).1
theorem g5y : IntKind.wrap .i64 1 = 1 := by rw [IntKind.wrap_i64]; omega
theorem d1r (h : f < x.regs.length) : PF x [92, f] = some (.cells 36 1 (lays x.regs[f])) := by rw [e8e, A5n h]; rfl
theorem e2b (x : Pts) (o : Int) (s : List Int) : (addC x o s).regs = x.regs := id (Eq.refl _)
theorem d3w (Y : Pts) (o : Int) (s : List Int) : a3f Y [o] s = addC Y o s := rfl
theorem e3g (hp : VOk p) (hy : Gv.Form p Y) (hB : BsP p 1 B) {s : List Int} (hBl : B [2, 71] = some (.cells T 1 [[.int .i64 o]])) (ho : 0 <= o /\ o < ((a0a p).length : Int)) (hso : okS (a0a p).length s) : FC Tp Gl 154 [.agg [.list 2 (sits (a0a p)), .sl [91] 1 0 p.fu.length, .sl [93] 1 0 (a0a p).length], .sl [2, 71] 1 0 1, .list 1 (ints s)] (HP [] B (PF Y)) (.tup []) (HP [] B (PF (addC Y o s))) := by
 have hsv := a0h hp
 have fB := (hB _ _ hy hy).fb
 have nB : ∀ r, B (1 :: r) = none := fun r => fB 1 r yb
 have hs := hso.2
 have hl : ∀ q ∈ [o], 0 <= q /\ q < ((a0a p).length : Int) := fun q hq => by simp at hq; subst hq; exact ho
 have hyc := hy.cn
 have hco : o.toNat < Y.cells.length := by omega
 have hu := b8m hp (hy.cs _ (A5p hco)) hso
 have ha := d1p Y o s rfl hco
 have hF : Gv.Form p (addC Y o s) := a4u hy hl hs 1
 rw [ha] at hF ⊢
 have hw0 : a3f Y [] s = Y := rfl
 have hw1 : a3f Y [o] s = ⟨Y.sites, Y.regs, Y.cells.set o.toNat (a1s Y.cells[o.toNat] s)⟩ := by rw [d3w, ha]
 refine yv Tryz.f154 [] 7 30 [] 1 ?_
 repeat' first
  | (refine yi ?_; refine a0e (σ := {k : Nat // k <= 1}) (fun y => [(6, .int .i64 (y.1 : Int))]) [] (fun y => []) [] (fun y => []) (fun y => PF (a3f Y ([o].take y.1) s)) (fun y => 1 - y.1) ⟨0, by simp⟩ (gk3 (j := 1) [] (hB _ _ hy (a4u hy (l := [o]) hl hs _)) y97 y97 y97 y97 y97 y97 y97) ?_; rintro ⟨k, hk⟩; simp only [lpS, LPXB]; (try dsimp only at hk); rcases A0r 0 k with hk1 | hk0; obtain rfl : k = 1 := ya; rotate_left; obtain rfl : k = 0 := ya)
  | (refine ye ?_; refine a0b (⟨1, by omega⟩) (gk3 (j := 1) [] (hB _ _ hy (a4u hy (l := [o]) hl hs _)) y70 y70 y70 y70 y70 y70 y70) yf)
  | ((with_reducible refine b8o (j := 1) (hB _ _ hy hF) ?_ ?_ ?_ ?_); (iterate 2 (focus rfl)); (focus (first | rfl | (simp [*]; done))); focus (first | trivial | (simp [nin, nins, a0p, inH, HPXB]; done)))
  | with_reducible first | refine a0n (id := 4) 17 a0d yc fun K hK => ?_ | refine zu ?_ | refine stpK ?_; intro K hK | refine stpC ?_; intro T E hT hE | refine stp2 ?_ ?_ <;> intro h | refine cpG hu ?_ | refine yg ?_; clear hK K | refine yh ?_; clear hT hE T E
  | simp [*, -List.all_flatten, -List.all_eq_true, zo, a0p, e2l, hBl, g5y]
theorem b3g (k : Nat) : a3m Y f n (k + 1) = addR (a3m Y f n k) n.b.toNat (k : Int) (rg (a3m Y f n k) f (n.c + k)) := by
 unfold a3m
 rw [A1p, A0z]; rfl
theorem f4g (Y : Pts) (f : Nat) (n : Ins) : a3m Y f n 0 = Y := id (Eq.refl _)
theorem d6i (h : k < code.length) (h1 : code[k].op = 30) (h2 : 0 <= code[k].a) : a7z Y f n (code.take (k + 1)) = addR (a7z Y f n (code.take k)) f n.a (rg (a7z Y f n (code.take k)) n.b.toNat code[k].a) := by
 unfold a7z
 rw [A0y, A5n h, A0z]
 simp [h1, h2]
theorem c8u (h : k < code.length) (h1 : ¬ (code[k].op = 30 /\ 0 <= code[k].a)) : a7z Y f n (code.take (k + 1)) = a7z Y f n (code.take k) := by
 unfold a7z
 rw [A0y, A5n h, A0z]
 simp [h1]
theorem f3s (Y : Pts) (f : Nat) (n : Ins) (code : List Ins) : a7z Y f n (code.take 0) = Y := id (Eq.refl _)
theorem b6o (hy : Gv.Form p Y) (hb0 : 0 <= n.b) (hb : n.b.toNat < p.fu.length) (hpar : Regs p.fu[n.b.toNat]) (k : Nat) (hk : (k : Int) <= p.fu[n.b.toNat].params) : Gv.Form p (a3m Y i n k) := ((d9k hb0 hb hpar k hk).1 Y hy).1
theorem d6h (hy : Gv.Form p Y) (hi : i < p.fu.length) (ha : isR p.fu[i] n.a) (code : List Ins) : Gv.Form p (a7z Y i n code) := by
 have : GF p (fun x => a7z x i n code) (fun x => ∀ m ∈ code, m.op = 30 /\ 0 <= m.a -> subR (rg x i n.a) (rg x n.b.toNat m.a)) := by
  refine GF.foldl (g := fun y (m : Ins) => if m.op = 30 /\ 0 <= m.a then addR y i n.a (rg y n.b.toNat m.a) else y) (C := fun x m => m.op = 30 /\ 0 <= m.a -> subR (rg x i n.a) (rg x n.b.toNat m.a)) fun m hm => ?_
  by_cases h : m.op = 30 /\ 0 <= m.a
  . simp only [h, and_self, if_true, true_imp_iff]
    exact a9u hi ha fun x hx => hx.regB _ _
  . simp only [h, if_false, false_imp_iff]
    exact GF.id p
 exact (this.1 Y hy).1
theorem c1q {v : Int} (h : v.toNat < p.fu.length) : fnAt p v = p.fu[v.toNat] := by
 unfold fnAt
 rw [A5m, A5n h, A5z]
theorem d3p (h : k < l.length) : a5d p Y (l.take (k + 1)) = (a2q p (a5d p Y (l.take k)) l[k]).foldl (fun y q => addR y q.toNat 0 [l[k]]) (a5d p Y (l.take k)) := by
 unfold a5d
 rw [A0y, A5n h, A0z]; rfl
theorem e1i (hp : VOk p) (hy : Gv.Form p Y) (hl : ∀ o ∈ l, 0 <= o /\ o < ((a0a p).length : Int)) (k : Nat) : Gv.Form p (a5d p Y (l.take k)) :=
 ((GF.foldl (p := p) (l := l.take k) (g := fun y (o : Int) => (a2q p y o).foldl (fun y (q : Int) => addR y q.toNat 0 [o]) y) (C := fun y (o : Int) => ∀ q ∈ a2q p y o, subR (rg y q.toNat 0) [o]) (fun o ho => f0l hp o (hl o (A0t ho)))).1 Y hy).1
def oneF (Z : Pts) (o : Int) (l : List Int) : Pts := l.foldl (fun y q => addR y q.toNat 0 [o]) Z
theorem e4y (Z : Pts) (o : Int) : oneF Z o [] = Z := id (Eq.refl _)
theorem d7j {Z : Pts} (h : k < l.length) : oneF Z o (l.take (k + 1)) = addR (oneF Z o (l.take k)) l[k].toNat 0 [o] := by
 unfold oneF
 rw [A0y, A5n h, A0z]; rfl
theorem b6q (hp : VOk p) {Z : Pts} (hz : Gv.Form p Z) (ho : 0 <= o /\ o < ((a0a p).length : Int)) (hl : ∀ q ∈ l, 0 <= q /\ q < (p.fu.length : Int) /\ a4d p.fu q = 1) (k : Nat) : Gv.Form p (oneF Z o (l.take k)) := by
 refine ((GF.foldl (p := p) (l := l.take k) (g := fun y (q : Int) => addR y q.toNat 0 [o]) (C := fun y q => subR (rg y q.toNat 0) [o]) fun q hq => ?_).1 Z hz).1
 obtain ⟨h0, h1, h2⟩ := hl q (A0t hq)
 obtain ⟨g1, g2⟩ := reg0 hp h0 h1 h2
 refine a9u g1 g2 fun _ _ o' ho' => ?_
 rw [A0d] at ho'; subst ho'; exact ho
theorem e1h (h : k < l.length) : a5d p Y (l.take (k + 1)) = oneF (a5d p Y (l.take k)) l[k] (a2q p (a5d p Y (l.take k)) l[k]) := d3p h
theorem e6o (hy : Gv.Form p Y) (o : Int) : frzs (HP L B (PF Y)) (p.fu.length + 30) [PA p, .agg [.list 2 (sits (a0a p)), .sl [91] 1 0 p.fu.length, .sl [93] 1 0 (a0a p).length], .int .i64 o] = some [PA p, .agg [.list 2 (sits Y.sites), .list 1 (lls Y.regs), .list 1 (lays Y.cells)], .int .i64 o] := by
 have h := c6i (L := L) (B := B) hy (p.fu.length + 28) ya
 have hn : nls [.list 4 (fns p.fu), .list 2 (gbs p.gl), .list 1 (lays p.la), .int .i64 p.main] = true := by simp [nls, nl, z1o]
 rw [show p.fu.length + 30 = (p.fu.length + 29) + 1 from rfl, frzs, show p.fu.length + 29 = (p.fu.length + 28) + 1 from rfl, frz, if_pos hn, frzs, h, show p.fu.length + 28 = (p.fu.length + 26) + 1 + 1 from rfl]
 simp [frzs, frz, nl]
theorem d0m (x : Pts) (o : Int) : (a2q p x o).length <= p.fu.length + 1 := by
 unfold a2q
 generalize (if 0 < o then b4r p (x.sites.getD o.toNat (0, 0)) else ins0) = n
 dsimp only
 by_cases e : n.op = 23
 . rw [if_pos e]; simp
 . rw [if_neg e]
   by_cases e2 : n.op = 24 /\ wrR p x o = false
   . rw [if_pos e2]; simp
   . rw [if_neg e2]
     have := b0f p.fu p.fu.length; omega
def ents (ks : List Int) : List (FV × FV × Nat) := ks.mapIdx fun i k => (.int .i64 k, .agg [], i)
def mapO (ks : List Int) : FO := .map (ents ks) ks.length
theorem b5r : ents [] = [] := rfl
theorem e7m (ks : List Int) : (ents ks).length = ks.length := by simp [ents]
theorem e0m (ks : List Int) (k : Int) : ents (ks ++ [k]) = ents ks ++ [(.int .i64 k, .agg [], ks.length)] := by simp [ents, A3s]
theorem b0j {e : FV × FV × Nat} : e ∈ ents ks ↔ ∃ i, ∃ h : i < ks.length, e = (.int .i64 ks[i], .agg [], i) := by
 rw [ents, List.mem_mapIdx]
 constructor
 . rintro ⟨i, h, rfl⟩; exact ⟨i, h, rfl⟩
 . rintro ⟨i, h, rfl⟩; exact ⟨i, h, rfl⟩
theorem a1f (U : FM.Loc -> Prop) (ks : List Int) : nine U (ents ks) := by
 have key : ∀ (es : List (FV × FV × Nat)), (∀ e ∈ es, ∃ k n, e = (.int .i64 k, .agg [], n)) -> nine U es := by
  intro es
  induction es with
  | nil => intro _; trivial
  | cons e es ih =>
    intro h
    obtain ⟨k, n, rfl⟩ := h e yd
    exact ⟨⟨trivial, trivial⟩, ih fun e he => h e (by simp [he])⟩
 refine key _ fun e he => ?_
 obtain ⟨i, h, rfl⟩ := b0j.1 he
 exact ⟨_, _, rfl⟩
theorem d3g (h : i < ks.length) : (ents ks).find? (fun e => e.2.2 == i) = some (.int .i64 ks[i], .agg [], i) := by
 rw [List.find?_eq_some_iff_getElem]
 refine ⟨by simp, i, by rw [e7m]; exact h, by simp [ents], fun j hj => ?_⟩
 simp only [ents, List.getElem_mapIdx]
 simp; omega
theorem eqK3 (a b : Int) : eqK Tp 3 (.int .i64 a) (.int .i64 b) = some (decide (a = b)) := by
 simp [eqK, c1w, FV.kd, eqV]
theorem c1r (o : Int) : ∀ (ks : List Int) (g : Nat -> Nat) (i : Nat), ∃ r, a7h Tp 3 (.int .i64 o) (ks.mapIdx fun j k => (FV.int .i64 k, FV.agg [], g j)) i = some r /\ (if o ∈ ks then ∃ n, r = some (n, .agg []) else r = none)
 | [], _, _ => ⟨none, rfl, by simp⟩
 | k :: ks, g, i => by
   obtain ⟨r, h1, h2⟩ := c1r o ks (fun j => g (j + 1)) (i + 1)
   rw [A3n]
   simp only [a7h, eqK3]
   by_cases e : o = k
   . subst e
     exact ⟨_, by simp only [decide_true]; rfl, by simp⟩
   . refine ⟨r, by simp only [e, decide_false]; exact h1, ?_⟩
     simp only [A0m, e, false_or]
     exact h2
theorem e6v (h : o ∈ ks) : ∃ n, a7h Tp 3 (.int .i64 o) (ents ks) 0 = some (some (n, .agg [])) := by
 obtain ⟨r, h1, h2⟩ := c1r o ks (fun j => j) 0
 rw [if_pos h] at h2
 obtain ⟨n, rfl⟩ := h2
 exact ⟨n, h1⟩
theorem d9z (h : o ∉ ks) : a7h Tp 3 (.int .i64 o) (ents ks) 0 = some none := by
 obtain ⟨r, h1, h2⟩ := c1r o ks (fun j => j) 0
 rw [if_neg h] at h2
 subst h2
 exact h1
theorem e5l {l : FM.Loc} (h : H l = some (mapO ks)) (o : Int) : b2w Tp H 141 (.mp l) (.int .i64 o) true = some (.tup [.agg [], .bool (decide (o ∈ ks))]) := by
 have hk : a8h Tp 3 (.int .i64 o) = true := by simp [a8h, c1w]
 simp only [b2w, b7o, hk, if_true, h, mapO]
 by_cases e : o ∈ ks
 . obtain ⟨n, hn⟩ := e6v e
   simp only [hn, e, if_true, decide_true]
 . simp only [d9z e, c6l, A0s, e, if_true, decide_false]
theorem f3z {l : FM.Loc} (h : H l = some (mapO ks)) (ho : o ∉ ks) : b0z Tp H 141 (.mp l) (.int .i64 o) (.agg []) = some ([(l, mapO (ks ++ [o]))], .undef) := by
 have hk : a8h Tp 3 (.int .i64 o) = true := by simp [a8h, c1w]
 simp only [b0z, b7o, h, mapO, hk, if_true, d9z ho, e0m, A0b, A1x]
def sitE (l : List (Int × Int)) : List (FV × FV × Nat) := (l.drop 1).mapIdx fun i s => (.agg [.int .i64 s.1, .int .i64 s.2], .int .i64 ((i : Int) + 1), i)
theorem c3b (U : FM.Loc -> Prop) (l : List (Int × Int)) : nine U (sitE l) := by
 have key : ∀ (es : List (FV × FV × Nat)), (∀ e ∈ es, ∃ a b k n, e = (.agg [.int .i64 a, .int .i64 b], .int .i64 k, n)) -> nine U es := by
  intro es
  induction es with
  | nil => intro _; trivial
  | cons e es ih =>
    intro h
    obtain ⟨a, b, k, n, rfl⟩ := h e yd
    exact ⟨⟨⟨trivial, trivial, trivial⟩, trivial⟩, ih fun e he => h e (by simp [he])⟩
 refine key _ fun e he => ?_
 rw [sitE, List.mem_mapIdx] at he
 obtain ⟨i, h, rfl⟩ := he
 exact ⟨_, _, _, _, rfl⟩
def rowR (L : List (List (List Int))) : List (List FV) := L.mapIdx fun f r => [.sl [83, f] 1 0 r.length]
def rowM (f : Nat) (r : List (List Int)) : List (List FV) := r.mapIdx fun i _ => [.mp [85, f, i]]
def rowC (r : List (List Int)) : List (List FV) := r.mapIdx fun i _ => [.mp [86, i]]
def anR (p : Pg) : List FV := [.list 4 (fns p.fu), .list 2 (gbs p.gl), .list 1 (lays p.la), .int .i64 p.main, .list 2 (sits (a0a p)), .mp [87], .sl [82] 1 0 p.fu.length, .sl [84] 1 0 (a0a p).length]
def MF (p : Pg) (y : Pts) (b : Bool) : Heap := fun l => match l with
 | [81] => some (.cells 138 8 [anR p])
 | [82] => some (.cells 136 1 (rowR y.regs))
 | [83, f] => (y.regs[f]?).map fun r => .cells 141 1 (rowM f r)
 | [84] => some (.cells 141 1 (rowC y.cells))
 | [85, f, i] => ((y.regs[f]?).bind (·[i]?)).map mapO
 | [86, o] => (y.cells[o]?).map mapO
 | [87] => some (.map (sitE (a0a p)) ((a0a p).length - 1))
 | [88] => some (.cells 4 1 [[.bool b]])
 | _ => none
theorem a3b (L : List (List (List Int))) : (rowR L).length = L.length := by simp [rowR]
theorem a4b (f : Nat) (r : List (List Int)) : (rowM f r).length = r.length := by simp [rowM]
theorem a4c (r : List (List Int)) : (rowC r).length = r.length := by simp [rowC]
theorem b1d {L : List (List (List Int))} {f : Nat} (h : f < (rowR L).length) : (rowR L)[f] = [.sl [83, f] 1 0 (L[f]'(by rwa [a3b] at h)).length] := by simp [rowR]
theorem b1e {g : Nat} {r : List (List Int)} {f : Nat} (h : f < (rowM g r).length) : (rowM g r)[f] = [.mp [85, g, f]] := by simp [rowM]
theorem b1f (h : f < (rowC r).length) : (rowC r)[f] = [.mp [86, f]] := by simp [rowC]
theorem d2n (f : Nat) {s : List (List Int)} (h : r.length = s.length) : rowM f r = rowM f s := by
 refine A0e (by simp [a4b, h]) fun i h1 h2 => by rw [b1e h1, b1e h2]
theorem d2o {s : List (List Int)} (h : r.length = s.length) : rowC r = rowC s := by
 refine A0e (by simp [a4c, h]) fun i h1 h2 => by rw [b1f h1, b1f h2]
theorem d2l {L L' : List (List (List Int))} (h : L.length = L'.length) (h' : ∀ f (h1 : f < L.length) (h2 : f < L'.length), L[f].length = L'[f].length) : rowR L = rowR L' := by
 refine A0e (by simp [a3b, h]) fun f h1 h2 => ?_
 rw [b1d h1, b1d h2, h' f (by rwa [a3b] at h1) (by rwa [a3b] at h2)]
theorem a8r (p : Pg) (y : Pts) (b : Bool) (k : Nat) (r : List Nat) (hk : k <= 20) : MF p y b (k :: r) = none := by
 unfold MF
 split <;> first | rfl | (rename_i h; simp at h; omega)
theorem f8g (p : Pg) (y : Pts) (b : Bool) : MF p y b [81] = some (.cells 138 8 [anR p]) := id (Eq.refl _)
theorem e2k (p : Pg) (y : Pts) (b : Bool) : MF p y b [82] = some (.cells 136 1 (rowR y.regs)) := id (Eq.refl _)
theorem e8i (p : Pg) (y : Pts) (b : Bool) (f : Nat) : MF p y b [83, f] = (y.regs[f]?).map fun r => .cells 141 1 (rowM f r) := id (Eq.refl _)
theorem e2j (p : Pg) (y : Pts) (b : Bool) : MF p y b [84] = some (.cells 141 1 (rowC y.cells)) := id (Eq.refl _)
theorem g5f (p : Pg) (y : Pts) (b : Bool) (f i : Nat) : MF p y b [85, f, i] = ((y.regs[f]?).bind (·[i]?)).map mapO := id (Eq.refl _)
theorem f8f (p : Pg) (y : Pts) (b : Bool) (o : Nat) : MF p y b [86, o] = (y.cells[o]?).map mapO := id (Eq.refl _)
theorem e8h (p : Pg) (y : Pts) (b : Bool) : MF p y b [87] = some (.map (sitE (a0a p)) ((a0a p).length - 1)) := id (Eq.refl _)
theorem g5e (p : Pg) (y : Pts) (b : Bool) : MF p y b [88] = some (.cells 4 1 [[.bool b]]) := id (Eq.refl _)
def _root_.Go.Gv.SL.loc : SL -> FM.Loc
 | .r f a => [85, f, a]
 | .c o => [86, o]
section
variable {L : LF} {B : Heap} {p : Pg} {y : Pts} {b : Bool}
theorem a4j : HP L B (MF p y b) [81] = some (.cells 138 8 [anR p]) := a5q (f8g p y b)
theorem h0t : HP L B (MF p y b) [82] = some (.cells 136 1 (rowR y.regs)) := a5q (e2k p y b)
theorem a6t {f : Nat} (h : f < y.regs.length) : HP L B (MF p y b) [83, f] = some (.cells 141 1 (rowM f y.regs[f])) := a5q (by rw [e8i, A5n h]; rfl)
theorem h0s : HP L B (MF p y b) [84] = some (.cells 141 1 (rowC y.cells)) := a5q (e2j p y b)
theorem g5p : HP L B (MF p y b) [87] = some (.map (sitE (a0a p)) ((a0a p).length - 1)) := a5q (e8h p y b)
theorem e8q : HP L B (MF p y b) [88] = some (.cells 4 1 [[.bool b]]) := a5q (g5e p y b)
theorem e2i (ht : t.ok y) : MF p y b t.loc = some (mapO (getS y t)) := by
 cases t with
 | r f a =>
   obtain ⟨h1, h2⟩ := ht
   rw [A5m, A5n h1, A5z] at h2
   show MF p y b [85, f, a] = some (mapO (rg y f (a : Int)))
   rw [g5f, A5n h1, A2j, A5n h2, A0s]
   simp [rg, A5m, h1, h2]
 | c o =>
   have ht : o < y.cells.length := ht
   show MF p y b [86, o] = some (mapO (cl y (o : Int)))
   rw [f8f, A5n ht, A0s]
   simp [cl, A5m, ht]
theorem a4t (ht : t.ok y) : HP L B (MF p y b) t.loc = some (mapO (getS y t)) := a5q (e2i ht)
theorem e2m {A' : Heap} {l : FM.Loc} {ob : FO} (h : A' l = some ob) (he : ∀ k, k ≠ l -> A' k = A k) : upd (HP L B A) l ob = HP L B A' := by
 funext k
 unfold HP
 by_cases e : k = l
 . subst e; rw [a6h h]; simp [upd]
 . simp only [upd, e, if_false]
   rw [a1m, a1m, he k e]
theorem g5n (b' : Bool) : upd (HP L B (MF p y b)) [88] (.cells 4 1 [[.bool b']]) = HP L B (MF p y b') :=
 e2m (g5e p y b') fun k hk => by
  unfold MF
  split <;> first | rfl | exact absurd rfl hk
theorem f8k (ht : t.ok y) (ks : List Int) : upd (HP L B (MF p y b)) t.loc (mapO ks) = HP L B (MF p (setS y t ks) b) := by
 have ht' : t.ok (setS y t ks) := by
  cases t with
  | r f a =>
    obtain ⟨h1, h2⟩ := ht
    refine ⟨by simpa [setS, setR] using h1, ?_⟩
    simp only [setS, setR, a3t]
    simp only [true_and, h1, if_true, A0h]; exact h2
  | c o => show o < _; simpa [setS, setC] using (show o < y.cells.length from ht)
 refine e2m (by rw [e2i ht', b2q ht, if_pos rfl]) fun k hk => ?_
 cases t with
 | r f a =>
   obtain ⟨h1, h2⟩ := ht
   rw [A5m, A5n h1, A5z] at h2
   have hk : k ≠ [85, f, a] := hk
   have hlen : (y.regs.set f ((y.regs.getD f []).set a ks)).length = y.regs.length := by simp
   have hrow : rowR (y.regs.set f ((y.regs.getD f []).set a ks)) = rowR y.regs := d2l yd fun g h3 h4 => by
    rw [A1e]
    split
    . rename_i e; subst e; simp [A5m, h1]
    . rfl
   unfold MF
   simp only [setS, setR, A5r]
   split
   . rfl
   . rw [hrow]
   . rename_i g
     rw [A3f]
     split
     . rename_i e; subst e
       simp only [h1, if_true, A5n h1, A0s]
       rw [d2n f (s := y.regs[f]) (by simp [A5m, h1])]
     . rfl
   . rfl
   . rename_i g i _
     rw [A3f]
     split
     . rename_i e; subst e
       have : i ≠ a := fun e' => hk (by rw [e'])
       simp only [h1, if_true, A5n h1, A2j, A5m, A5z, A4d (A4f this)]
     . rfl
   . rfl
   . rfl
   . rfl
   . rfl
 | c o =>
   have hk : k ≠ [86, o] := hk
   have hrow : rowC (y.cells.set o ks) = rowC y.cells := d2o yd
   unfold MF
   simp only [setS, setC, A5r]
   split
   . rfl
   . rfl
   . rfl
   . rw [hrow]
   . rfl
   . rename_i q _
     have : q ≠ o := fun e' => hk (by rw [e'])
     rw [A4d (A4f this)]
   . rfl
   . rfl
   . rfl
end
theorem g3z (hy : Shp p y) (b : Bool) (hB : ∀ l o, B l = some o -> ninO (fun l => ext B (MF p y b) l ≠ none) o) : Clo (ext B (MF p y b)) := fun l o hl => by
 rw [a1m] at hl
 have up : ∀ k, MF p y b k ≠ none -> ext B (MF p y b) k ≠ none := fun k hk => by
  obtain ⟨o', ho'⟩ := A0x.1 hk
  rw [a6h ho']; simp
 cases e : MF p y b l with
 | none => rw [e] at hl; exact hB l o hl
 | some o' =>
   rw [e] at hl
   obtain rfl := A5o hl
   have key : ∀ (U : FM.Loc -> Prop) (xs : List (List FV)), (∀ r ∈ xs, nins U r) -> a1h U xs := by
    intro U xs
    induction xs with
    | nil => intro _; trivial
    | cons r xs ih => intro h; exact ⟨h r yd, ih fun r hr => h r (by simp [hr])⟩
   unfold MF at e
   split at e
   . obtain rfl := A5o e
     refine ⟨⟨a3k _, a3j _, a1a _, trivial, a1i _, up _ (by rw [e8h]; simp), up _ (by rw [e2k]; simp), up _ (by rw [e2j]; simp), trivial⟩, trivial⟩
   . obtain rfl := A5o e
     refine key _ _ fun r hr => ?_
     obtain ⟨i, hi, rfl⟩ := A0g hr
     rw [b1d hi]
     rw [a3b] at hi
     exact ⟨up _ (by rw [e8i, A5n hi]; simp), trivial⟩
   . rename_i f
     rw [A5q] at e
     obtain ⟨r, hr, rfl⟩ := e
     refine key _ _ fun q hq => ?_
     obtain ⟨i, hi, rfl⟩ := A0g hq
     rw [b1e hi]
     rw [a4b] at hi
     exact ⟨up _ z43, trivial⟩
   . obtain rfl := A5o e
     refine key _ _ fun q hq => ?_
     obtain ⟨i, hi, rfl⟩ := A0g hq
     rw [b1f hi]
     rw [a4c] at hi
     exact ⟨up _ (by rw [f8f, A5n hi]; simp), trivial⟩
   . rw [A5q] at e
     obtain ⟨r, hr, rfl⟩ := e
     exact a1f _ _
   . rw [A5q] at e
     obtain ⟨r, hr, rfl⟩ := e
     exact a1f _ _
   . obtain rfl := A5o e
     exact c3b _ _
   . obtain rfl := A5o e
     exact ⟨⟨trivial, trivial⟩, trivial⟩
   . cases e
theorem d1s {y' : Pts} (hy : Shp p y) (hy' : Shp p y') (b b' : Bool) (l : FM.Loc) (h : MF p y b l ≠ none) : MF p y' b' l ≠ none := by
 have hr : y'.regs.length = y.regs.length := hy'.rn.trans hy.rn.symm
 have hc : y'.cells.length = y.cells.length := hy'.cn.trans hy.cn.symm
 have hf : ∀ f (h1 : f < y.regs.length) (h2 : f < y'.regs.length), y'.regs[f].length = y.regs[f].length := fun f h1 h2 => by
  have e1 := hy.fn f h1 (by rw [<- hy.rn]; exact h1)
  have e2 := hy'.fn f h2 (by rw [<- hy.rn]; exact h1)
  omega
 unfold MF at h ⊢
 split <;> first | simp | skip
 . rename_i f
   by_cases h1 : f < y.regs.length
   . rw [hr]; exact h1
   . exfalso; apply h; simp only [A5y (A4e h1), A5e]
 . rename_i f i
   by_cases h1 : f < y.regs.length
   . have h2 : f < y'.regs.length := by omega
     by_cases h3 : i < y.regs[f].length
     . have h4 : i < y'.regs[f].length := by rw [hf f h1 h2]; exact h3
       simp [A5n h2, h4]
     . exfalso; apply h; simp only [A5n h1, A2j, A5y (A4e h3), A5e]
   . exfalso; apply h; simp only [A5y (A4e h1), Option.bind_none, A5e]
 . rename_i o
   by_cases h1 : o < y.cells.length
   . rw [hc]; exact h1
   . exfalso; apply h; simp only [A5y (A4e h1), A5e]
 . rename_i h1 h2 h3 h4 h5 h6 h7 h8
   split at h
   . exact absurd rfl h1
   . exact absurd rfl h2
   . exact absurd rfl (h3 _)
   . exact absurd rfl h4
   . exact absurd rfl (h5 _ _)
   . exact absurd rfl (h6 _)
   . exact absurd rfl h7
   . exact absurd rfl h8
   . exact h rfl
abbrev BsM (p : Pg) (j : Nat) (B : Heap) : Prop := ∀ y b y' b', Shp p y -> Shp p y' -> Bs (inH (HP [] B (MF p y b))) j B (MF p y' b')
theorem bsM0 (p : Pg) (j : Nat) (hj : j <= 20) : BsM p j noH := fun y b y' b' hy hy' =>
 ⟨fun _ _ _ => rfl, fun k r hk => a8r p y' b' k r ya, g3z hy' b' fun _ _ h => zr, fun l hl hn => by
  have hl : HP [] noH (MF p y b) l ≠ none := hl
  rw [a0s] at hn
  refine hl (a2c.2 ⟨?_, rfl⟩)
  cases e : MF p y b l with
  | none => rfl
  | some o => exact absurd hn.1 (d1s hy hy' b b' l z1e)⟩
theorem BsM.call {p : Pg} {j : Nat} {B : Heap} {L : LF} (i : Nat) (hB : BsM p j B) (hi : i < j) {y : Pts} {b : Bool} (hy : Shp p y) (hl : hdN j (L.map Prod.fst) = true) (ho : ninL (inH (HP L B (MF p y b))) L) : BsM p i (updL L B) := fun yl1 b1 yl2 b2 h1 h2 => by
 have hup : ∀ y' b', Shp p y' -> ∀ q, HP L B (MF p y b) q ≠ none -> HP L B (MF p y' b') q ≠ none := fun y' b' hy' q hq hn => by
  rw [a2c] at hn
  refine hq (a2c.2 ⟨?_, hn.2⟩)
  cases e : MF p y b q with
  | none => rfl
  | some o => exact absurd hn.1 (d1s hy hy' b b' q z1e)
 have key := Bs.call (A := MF p yl1 b1) (L := L) i (hB yl1 b1 yl2 b2 h1 h2) hi hl (by
  have : ∀ {L' : LF}, ninL (inH (HP L B (MF p y b))) L' -> ninL (fun l => HP L B (MF p yl2 b2) l ≠ none) L' := by
   intro L'
   induction L' with
   | nil => intro _; trivial
   | cons q r ih => intro h; exact ⟨a1t (fun l hl => hup yl2 b2 h2 l hl) h.1, ih h.2⟩
  exact this ho) fun l hl => d1s h1 h2 b1 b2 l hl
 exact key
def y3 := cj @h0t (cj @h0s (cj @a4j (cj @a6t (cj @c7g (cj @MG_t @MG_f)))))
def wy := cj @a3b (cj @a4b (cj @a4c (cj @b1d (cj @b1e @b1f))))
def yu := cj @a7j (cj @b4p @a8r)
def zz := cj @g5p @c7g
section
variable {P : Program} {c : Cfg} {ops : Array Oper} {o : Oper} {rest : List Oper} {K Φ : Fs -> Prop} {s : Fs} {f : FuncId} {b : Bool} {A : List FV}
theorem cgH (h : a9b P c ops o rest K s f b A) : a9b P c ops o rest K s f b A := h
theorem mdH {x : Option (FuncId × List FV)} (h : MDo P c ops o rest Φ s x) : MDo P c ops o rest Φ s x := h
theorem wlH {l : List Oper} (h : WL P c ops l Φ s) : WL P c ops l Φ s := h
theorem lfH {H1 : Heap} {Ψ : FV -> Heap -> Prop} {x : Option (List FV)} (h : LFin H Ψ H1 x) : LFin H Ψ H1 x := h
end
theorem g6g {l : FM.Loc} (o : Int) (hB : Bs (inH (HP [] B A)) 0 B A) (hl : HP [] B A l = some (mapO ks)) : FC Tp Gl 94 [.mp l, .int .i64 o] (HP [] B A) (.bool (decide (o ∈ ks))) (HP [] B A) := by
 have hlk := e5l hl o
 have fA : ∀ r, A (0 :: r) = none := fun r => hB.fa 0 r yb
 have fB : ∀ r, B (0 :: r) = none := fun r => hB.fb 0 r yb
 refine yv Tryz.f94 [.tmp 4] 7 14 [] 0 ?_
 repeat' first
  | ((with_reducible refine b8o (j := 0) hB ?_ ?_ ?_ ?_); (iterate 2 (focus rfl)); (focus (first | rfl | (simp [*]; done))); focus (first | trivial | (simp [nin, nins, a0p, inH, HPXB]; done)))
  | refine yo ?_
  | (refine stpK ?_; intro K hK)
  | (refine stpC ?_; intro T E hT hE)
  | (refine stp2 ?_ ?_ <;> intro h)
  | (refine yg ?_; clear hK K)
  | (refine yh ?_; clear hT hE T E)
  | simp [*, -List.all_flatten, -List.all_eq_true, DEFM, fA, fB]
theorem e3l (o : Int) (h0 : H [3, 95] = none) : FC Tp Gl 174 [.int .i64 o] H (.mp [3, 95]) (upd H [3, 95] (mapO [o])) := by
 have e0 : (fun d ix => if d = 3 then [3, 95] else 0 :: d :: ix : Nat -> List Nat -> FM.Loc) 3 [] = [3, 95] := rfl
 refine d1v (res := [.tmp 2]) 3 7 [] (fun d ix => if d = 3 then [3, 95] else 0 :: d :: ix) (fn := Tryz.f174) yc yn yn yn yd yb ?_
 repeat' first
  | with_reducible first | refine e9z ?_ | refine f0a ?_ | refine yo ?_ | refine stpK ?_; intro K hK | refine stpC ?_; intro T E hT hE | refine stp2 ?_ ?_ <;> intro h | refine yg ?_; clear hK K | refine yh ?_; clear hT hE T E
  | simp [*, -List.all_flatten, -List.all_eq_true, DEFB, a7h, c1w, A2u, KFin]
 all_goals (funext k; simp only [upd]; split <;> rfl)
theorem b7t {l k : FM.Loc} {since : Nat} {sn : List Nat} (hi : i < ks.length) (h1 : H l = some (.iter (.mp k) since (sn ++ [i]) ks.length)) (h2 : H k = some (mapO ks)) : b4i H (.ptr l 0 0 0) = some (.tup [.int .i64 ks[i], .agg []]) := by
 simp only [b4i, h1, h2, mapO, if_true, List.getLast?_append, List.getLast?_singleton, Option.some_or, d3g hi]
theorem b6n {l nm : FM.Loc} (h : H l = some (mapO ks)) (hn : H nm = none) : b1w Tp H nm 141 (.mp l) = some ([(nm, .iter (.mp l) ks.length [] ks.length)], .ptr nm 0 0 0) := by
 simp [b1w, b7o, hn, h, mapO]
theorem a1g {l : FM.Loc} {o : FO} (h : H l = some o) : inH H l := fun e => by rw [h] at e; cases e
theorem c6e {l : FM.Loc} {o : FO} {L : LF} {B A : Heap} : inH (HP ((l, o) :: L) B A) l := fun h => by
 have := (a2c.1 h).2
 simp [updL, upd] at this
theorem c1f {l k : FM.Loc} {o : FO} (h : inH (HP L B A) l) : inH (HP ((k, o) :: L) B A) l := fun e => by
 obtain ⟨h1, h2⟩ := a2c.1 e
 simp only [updL, upd] at h2
 split at h2
 . cases h2
 . exact h (a2c.2 ⟨h1, h2⟩)
theorem d0d (ht : t.ok y) : inH (HP L B (MF p y b)) t.loc := a1g (a4t ht)
theorem a5m : inH (HP L B (MF p y b)) [88] := a1g e8q
theorem g5o {b' : Bool} {lf : FM.Loc} (hB : BsM p j B) (hj : j <= 20) (hy : Shp p y) (h : HP [] B (MF p y b) lf = some (mapO ks)) (hL : hdN j (L.map Prod.fst) = true) : HP L B (MF p y b') lf = some (mapO ks) := by
 have hbb := hB y b y b hy hy
 have hsame : lf ≠ [88] -> MF p y b' lf = MF p y b lf := fun hne => by
  unfold MF
  split <;> first | rfl | exact absurd rfl hne
 have hne : lf ≠ [88] := fun e => by subst e; rw [e8q] at h; cases h
 have h := b7c (L := L) hbb.fb hL lf (mapO ks) h
 unfold HP at h ⊢
 rw [a1m] at h ⊢
 rw [hsame hne]
 exact h
theorem d4o (o : Int) (hB : BsM p j B) (h0 : 0 < j) (hy : Shp p y) (ht : t.ok y) (hl : hdN j (L.map Prod.fst) = true) (hn : ninL (inH (HP L B (MF p y b))) L) : FC Tp Gl 94 [.mp t.loc, .int .i64 o] (HP [] (updL L B) (MF p y b)) (.bool (decide (o ∈ getS y t))) (HP [] (updL L B) (MF p y b)) :=
 g6g o ((hB.call 0 h0 hy hl hn) y b y b hy hy) (a4t ht)
theorem in_B {l : FM.Loc} (h : B l ≠ none) : inH (HP L B A) l := fun e => by
 have := (a2c.1 e).2
 induction L with
 | nil => exact h this
 | cons q r ih =>
   obtain ⟨k, o⟩ := q
   simp only [updL, upd] at this
   split at this
   . cases this
   . exact ih (a2c.2 ⟨(a2c.1 e).1, this⟩) this
def OutT (p : Pg) (m : Bool) (B : Heap) (C : Pts -> Prop) (Y : Pts) (g : Bool) (r : FV) (H' : Heap) : Prop := r = .tup [] /\ ∃ Y' g', H' = HP [] B (MF p Y' g') /\ Shp p Y' /\ TR m C C Y g Y' g'
def CT (p : Pg) (m : Bool) (f : FuncId) : Prop := ∀ (B : Heap) (y : Pts) (b : Bool) (t : SL) (lf : FM.Loc) (ks : List Int), Shp p y -> t.ok y -> BsM p 1 B -> okA (a0a p).length ks -> HP [] B (MF p y b) lf = some (mapO ks) ->
 FCr Tp Gl f [.mp t.loc, .mp lf, .ptr [88] 1 0 0] (HP [] B (MF p y b)) (OutT p m B (inS t ks) y b)
def ze := cj @c6e @c1f
end Go.Je
namespace Go.Je
open Go Go.FM Go.RowKit Go.Proofs Go.Shelf Go.Maps
def sR : Ren := ⟨fun n => match n with | 189 => 132 | 125 => 168 | 128 => 191 | 129 => 192 | 215 => 212 | 216 => 199 | 257 => 171 | 294 => 193 | 295 => 194 | 296 => 195 | 297 => 196 | 298 => 197 | 299 => 198 | 300 => 200 | 301 => 201 | 328 => 209 | 329 => 204 | 330 => 205 | 331 => 210 | 332 => 211 | 343 => 214 | _ => 0, fun n => match n with | 9 => 9 | 3 => 3 | 46 => 126 | 0 => 0 | 51 => 221 | 53 => 67 | 4 => 4 | 183 => 214 | 182 => 213 | 131 => 113 | 5 => 5 | 218 => 227 | 222 => 231 | 228 => 236 | 229 => 237 | 28 => 36 | _ => 0, fun _ => 0⟩
theorem sL : Lays.n189 Tp sR where
 mixed := by kernel_rfl
 f125 := by kernel_rfl
 f128 := by kernel_rfl
 f129 := by kernel_rfl
 f189 := by kernel_rfl
 f215 := by kernel_rfl
 f216 := by kernel_rfl
 f257 := by kernel_rfl
 f294 := by kernel_rfl
 f295 := by kernel_rfl
 f296 := by kernel_rfl
 f297 := by kernel_rfl
 f298 := by kernel_rfl
 f299 := by kernel_rfl
 f300 := by kernel_rfl
 f301 := by kernel_rfl
 f328 := by kernel_rfl
 f329 := by kernel_rfl
 f330 := by kernel_rfl
 f331 := by kernel_rfl
 f332 := by kernel_rfl
 f343 := by kernel_rfl
 t0 := by kernel_rfl
 a0 := fun w => by kernel_rfl
 z0 := fun w => by kernel_rfl
 v0 := fun w => by kernel_rfl
 t3 := by kernel_rfl
 a3 := fun w => by kernel_rfl
 z3 := fun w => by kernel_rfl
 v3 := fun w => by kernel_rfl
 t4 := by kernel_rfl
 a4 := fun w => by kernel_rfl
 z4 := fun w => by kernel_rfl
 v4 := fun w => by kernel_rfl
 t5 := by kernel_rfl
 a5 := fun w => by kernel_rfl
 z5 := fun w => by kernel_rfl
 v5 := fun w => by kernel_rfl
 t9 := by kernel_rfl
 a9 := fun w => by kernel_rfl
 z9 := fun w => by kernel_rfl
 v9 := fun w => by kernel_rfl
 t28 := by kernel_rfl
 a28 := fun w => by kernel_rfl
 z28 := fun w => by kernel_rfl
 v28 := fun w => by kernel_rfl
 t46 := by kernel_rfl
 a46 := fun w => by kernel_rfl
 z46 := fun w => by kernel_rfl
 v46 := fun w => by kernel_rfl
 t51 := by kernel_rfl
 a51 := fun w => by kernel_rfl
 z51 := fun w => by kernel_rfl
 v51 := fun w => by kernel_rfl
 t53 := by kernel_rfl
 a53 := fun w => by kernel_rfl
 z53 := fun w => by kernel_rfl
 v53 := fun w => by kernel_rfl
 t131 := by kernel_rfl
 a131 := fun w => by kernel_rfl
 z131 := fun w => by kernel_rfl
 v131 := fun w => by kernel_rfl
 t182 := by kernel_rfl
 a182 := fun w => by kernel_rfl
 z182 := fun w => by kernel_rfl
 v182 := fun w => by kernel_rfl
 t183 := by kernel_rfl
 a183 := fun w => by kernel_rfl
 z183 := fun w => by kernel_rfl
 v183 := fun w => by kernel_rfl
 t218 := by kernel_rfl
 a218 := fun w => by kernel_rfl
 z218 := fun w => by kernel_rfl
 v218 := fun w => by kernel_rfl
 t222 := by kernel_rfl
 a222 := fun w => by kernel_rfl
 z222 := fun w => by kernel_rfl
 v222 := fun w => by kernel_rfl
 t228 := by kernel_rfl
 a228 := fun w => by kernel_rfl
 z228 := fun w => by kernel_rfl
 v228 := fun w => by kernel_rfl
 t229 := by kernel_rfl
 a229 := fun w => by kernel_rfl
 z229 := fun w => by kernel_rfl
 v229 := fun w => by kernel_rfl
def kR6 : Ren := ⟨fun n => match n with | 10 => 151 | 11 => 150 | 8 => 107 | 6 => 109 | 9 => 132 | _ => 0, fun n => match n with | 0 => 0 | 4 => 4 | 23 => 141 | 26 => 3 | 3 => 158 | 33 => 116 | 24 => 36 | 28 => 156 | _ => 0, fun _ => 0⟩
theorem kL8 : SlLaysZI.n8 Tp kR6 where
 mixed := by kernel_rfl
 f8 := ⟨ "slices.Collect[int]", by decide, by kernel_rfl⟩
 f11 := ⟨ "slices.AppendSeq[[]int,int]", by decide, by kernel_rfl⟩
 t0 := by kernel_rfl
 a0 := fun w => by kernel_rfl
 z0 := fun w => by kernel_rfl
 v0 := fun w => by kernel_rfl
 t24 := by kernel_rfl
 a24 := fun w => by kernel_rfl
 z24 := fun w => by kernel_rfl
 v24 := fun w => by kernel_rfl
 t26 := by kernel_rfl
 a26 := fun w => by kernel_rfl
 z26 := fun w => by kernel_rfl
 v26 := fun w => by kernel_rfl
 t28 := by kernel_rfl
 a28 := fun w => by kernel_rfl
 z28 := fun w => by kernel_rfl
 v28 := fun w => by kernel_rfl
 i26 := by kernel_rfl
theorem kL6 : SlLaysZI.n6 Tp kR6 where
 mixed := by kernel_rfl
 f6 := ⟨ "slices.Sorted[int]", by decide, by kernel_rfl⟩
 f8 := ⟨ "slices.Collect[int]", by decide, by kernel_rfl⟩
 f11 := ⟨ "slices.AppendSeq[[]int,int]", by decide, by kernel_rfl⟩
 t0 := by kernel_rfl
 a0 := fun w => by kernel_rfl
 z0 := fun w => by kernel_rfl
 v0 := fun w => by kernel_rfl
 t24 := by kernel_rfl
 a24 := fun w => by kernel_rfl
 z24 := fun w => by kernel_rfl
 v24 := fun w => by kernel_rfl
 t26 := by kernel_rfl
 a26 := fun w => by kernel_rfl
 z26 := fun w => by kernel_rfl
 v26 := fun w => by kernel_rfl
 t28 := by kernel_rfl
 a28 := fun w => by kernel_rfl
 z28 := fun w => by kernel_rfl
 v28 := fun w => by kernel_rfl
 i26 := by kernel_rfl
theorem g2i : SlLaysZI.n10 Tp kR6 where
 mixed := by kernel_rfl
 f10 := ⟨Tryz.f151.name, by kernel_rfl, by kernel_rfl⟩
 t0 := by kernel_rfl
 a0 := fun w => by kernel_rfl
 z0 := fun w => by kernel_rfl
 v0 := fun w => by kernel_rfl
 t4 := by kernel_rfl
 a4 := fun w => by kernel_rfl
 z4 := fun w => by kernel_rfl
 v4 := fun w => by kernel_rfl
 t23 := by kernel_rfl
 a23 := fun w => by kernel_rfl
 z23 := fun w => by kernel_rfl
 v23 := fun w => by kernel_rfl
 t26 := by kernel_rfl
 a26 := fun w => by kernel_rfl
 z26 := fun w => by kernel_rfl
 v26 := fun w => by kernel_rfl
 t33 := by kernel_rfl
 a33 := fun w => by kernel_rfl
 z33 := fun w => by kernel_rfl
 v33 := fun w => by kernel_rfl
end Go.Je
namespace Go.Je
open Go Go.FM Go.Gv Go.RowKit Go.Proofs Go.Shelf Go.Sort
theorem c8t {w : World} {F : Nat -> Prop} {U : FM.Loc -> Prop} {m : FM.Loc -> Nat × Nat} : ∀ (s : List Int) (vs : List Value), RFs w F U m (ints s).flatten vs -> vs = s.map (Value.int .i64)
 | [], vs, h => by
   cases h; rfl
 | a :: s, vs, h => by
   have e : (ints (a :: s)).flatten = .int .i64 a :: (ints s).flatten := rfl
   rw [e] at h
   cases h with
   | cons _ v _ vs h1 h2 =>
   cases h1
   rw [c8t s vs h2]; rfl
theorem c9y {w : World} {F : Nat -> Prop} {U : FM.Loc -> Prop} {m : FM.Loc -> Nat × Nat} : ∀ (s : List Int), RFs w F U m (ints s).flatten (s.map (Value.int .i64))
 | [] => .nil
 | a :: s => .cons _ _ _ _ (.int _ _) (c9y s)
theorem c7k {P : Program} {G : List (Nat × List Value)} {f : FuncId} {H : Heap} {l : FM.Loc} {T : TypeId} {s s' : List Int} {r : FV} {R : Nat -> Nat -> Value} (hl : H l = some (.cells T 1 (ints s))) (hs : s ≠ []) (hlen : s'.length = s.length)
 (h : ∀ (w : World) (blk cap : Nat), Holds (Value.int .i64) w blk 0 s.toArray -> blk < w.heap.size -> s.length <= cap -> Calls P f #[.slice (some ⟨blk, 0, none⟩) s.length cap] w fun e w' => e = .returned (R blk cap) /\ ∃ n os, w' = grow (putRow (Value.int .i64) (Sort.ahead w n) blk 0 s'.toArray) os)
 (hr : ∀ (w' : World) (F : Nat -> Prop) (m : FM.Loc -> Nat × Nat) (cap : Nat), s.length <= cap -> cap <= (m l).2 -> RF w' F (fun k => upd H l (.cells T 1 (ints s')) k ≠ none) m r (R (m l).1 cap)) :
 FC P G f [.sl l 1 0 s.length] H r (upd H l (.cells T 1 (ints s'))) := by
 intro w F m vs hF hG hv hH
 have hpos : 0 < s.length := List.length_pos_iff.2 hs
 have hil : ∀ s : List Int, (ints s).length = s.length := fun s => by simp [ints]
 rcases hH.obj l _ hl with ⟨e, _⟩ | ⟨h0, c, g1, g2, g3, g4, g5⟩
 . have := hil s
   rw [e] at this
   simp at this; omega
 obtain ⟨v, rfl, g⟩ := hv.single
 have hlive : Live H m l := ⟨_, hl, by simp, h0⟩
 have hb := (hH.old l hlive)
 obtain ⟨cap, rfl, hc, hcap⟩ : ∃ cap, v = .slice (some ⟨(m l).1, 0, none⟩) s.length cap /\ s.length <= cap /\ cap <= (m l).2 := by
  generalize hn : s.length = n at g hpos
  cases g with
  | sl _ _ _ _ cap o hu hc ho hs => exact ⟨cap, by congr; omega, hc, by omega⟩
  | sl0 => omega
 have hg5 := c8t s _ g5
 have hcell : ∀ j, j < s.length -> c[j]? = some (Value.int .i64 s[j]!) := fun j hj => by
  have := congrArg (·[j]?) hg5
  simp only [A1j, Nat.mul_one, hil] at this
  rw [A0p, if_pos hj, A2m, A5n hj] at this
  rw [this, A0s, getElem!_pos s j hj]
 have hH0 : Holds (Value.int .i64) w (m l).1 0 s.toArray := fun j hj => by
  have hj' : j < s.length := by simpa using hj
  refine ⟨?_, ?_⟩
  . rw [a5a g1, A3u, hcell j hj']
    simp [hj']
  . simp [World.frozen?, g1]
 refine (h w (m l).1 cap hH0 hb.1 hc).mono ?_
 rintro e w' ⟨rfl, n, os, rfl⟩
 have hsz : (w.heap.modify (m l).1 (onCells (putCells (Value.int .i64) 0 s'.toArray))).size = w.heap.size := by simp
 have hblk : ∀ y, y < w.heap.size -> y ≠ (m l).1 -> (grow (putRow (Value.int .i64) (Sort.ahead w n) (m l).1 0 s'.toArray) os).heap[y]? = w.heap[y]? := fun y hy hne => by
  simp only [grow, putRow, mapBlock, Sort.ahead]
  rw [Array.getElem?_append_left (by rw [hsz]; exact hy), Array.getElem?_modify]
  rw [if_neg (A4f hne)]
 have hme : (grow (putRow (Value.int .i64) (Sort.ahead w n) (m l).1 0 s'.toArray) os).heap[(m l).1]? = some (.cells (putCells (Value.int .i64) 0 s'.toArray c) T (0, 0)) := by
  simp only [grow, putRow, mapBlock, Sort.ahead]
  rw [Array.getElem?_append_left (by rw [hsz]; exact hb.1), Array.getElem?_modify, if_pos rfl, g1]
  rfl
 have hsize : (grow (putRow (Value.int .i64) (Sort.ahead w n) (m l).1 0 s'.toArray) os).heap.size = w.heap.size + os.size := by
  simp [grow, putRow, mapBlock, Sort.ahead]
 have hU : ∀ k, H k ≠ none -> upd H l (.cells T 1 (ints s')) k ≠ none := fun k hk => by
  unfold upd; split
  . simp
  . exact hk
 have hL : ∀ k, Live (upd H l (.cells T 1 (ints s'))) m k -> Live H m k := fun k hk => by
  by_cases e : k = l
  . subst e; exact hlive
  . obtain ⟨o, a1, a2, a3⟩ := hk
    exact ⟨o, by simpa [upd, e] using a1, a2, a3⟩
 refine ⟨_, F, m, rfl, fun _ h => h, fun y hy => ⟨.inl hy, by rw [hsize]; have := hF y hy; omega⟩, fun k hk => ⟨rfl, hU k hk⟩, hr _ _ _ _ hc hcap, ⟨fun k o hk => ?_, fun a b ha hb' e => hH.inj a b (hL a ha) (hL b hb') e, fun k hk => ?_⟩, fun k hk => .inl ⟨k, hL k hk, rfl⟩, by rw [hsize]; omega, fun y hy hn => ?_, rfl, rfl, rfl⟩
 . by_cases e : k = l
   . subst e
     have : o = .cells T 1 (ints s') := by simpa [upd] using hk.symm
     subst this
     refine .inr ⟨h0, _, hme, by simp [putCells, g2], fun x hx => ?_, ?_, ?_⟩
     . simp only [ints, A1t] at hx
       obtain ⟨a, _, rfl⟩ := hx; rfl
     . rw [hil] at g4 ⊢
       simp [putCells, hlen]; omega
     . have e2 : (putCells (Value.int .i64) 0 s'.toArray c).toList.take ((ints s').length * 1) = s'.map (Value.int .i64) := by
        rw [hil, Nat.mul_one]
        refine A4c fun j => ?_
        rw [A0p, A1j]
        split
        . rename_i hj
          rw [A2m, putCells, Array.getElem?_mapIdx]
          have hj2 := hcell j ya
          rw [hj2, A5n hj]
          simp [hj]
        . rename_i hj
          rw [A5y ya]; rfl
       rw [e2]
       exact c9y s'
   . have hk' : H k = some o := by simpa [upd, e] using hk
     refine (hH.obj k o hk').keep (fun _ h => h) (fun b hbF => hblk b (hF b hbF) fun e2 => hb.2 (e2 ▸ hbF)) hU (fun _ _ => rfl) rfl fun ho h1 => ?_
     have hlk : Live H m k := ⟨o, hk', ho, h1⟩
     exact hblk _ (hH.old k hlk).1 fun e2 => e (hH.inj k l hlk hlive e2)
 . have := hH.old k (hL k hk)
   exact ⟨by rw [hsize]; omega, this.2⟩
 . exact hblk y hy fun e => hn l hlive e.symm
end Go.Je
