/- Part. -/
import Derived.Test.YtfhhgjbcenhdeaaGreatDoorS19
set_option linter.all false
set_option maxRecDepth 100000
set_option maxHeartbeats 0
namespace Go.Je
open Go Go.FM Go.Gv Go.Proofs
variable {B H : Heap} {L : LF} {Y : Pts} {a o : Int} {f j n nr : Nat} {fk : FuncId} {g m : Bool} {p : Pg}
theorem f8o {L0 L1 : FM.Loc -> Prop} {A : Heap} (h : Bs L0 j B A) (hl : ∀ l, L1 l -> L0 l) : Bs L1 j B A := ⟨h.fb, h.fa, h.clo, fun l hl' => h.lent l (hl l hl')⟩
theorem e6m {x : Pts} (hx : Shp p x) (h0 : 0 < o) (hf : f < p.fu.length) (hj : j < p.fu[f].code.length) (h : o.toNat < (a0a p).length) (e : (a0a p)[o.toNat] = ((f : Int), (j : Int))) :
 a2q p x o = if p.fu[f].code[j].op = 23 then [] else if p.fu[f].code[j].op = 24 /\ wrR p x o = false then [p.fu[f].code[j].b] else oneP p.fu p.fu.length := by
 have hn : b4r p (x.sites.getD o.toNat (0, 0)) = p.fu[f].code[j] := by
  rw [hx.sites, A5m, A5n h, A5z, e]
  simp [b4r, hf, A5m, hj]
 simp only [a2q, h0, if_true, hn]
theorem c9j (hy : Shp p Y) (hB : BsM p 2 B) {r : List Nat} {xs : List (List FV)} (hN : n = xs.length) (hL : hdN 2 (L.map Prod.fst) = true) (h : updL L B (2 :: r) = some (.cells 3 1 xs)) (hn : nlss xs = true) (hnn : ∀ U : FM.Loc -> Prop, a1h U xs) :
 LFin (HP [] B (MF p Y g)) (fun r1 H1 => r1 = .sl (2 :: r) 1 0 n /\ H1 = HP [(2 :: r, .cells 3 1 xs)] B (MF p Y g)) (HP L B (MF p Y g)) (some [.sl (2 :: r) 1 0 n]) := by
 subst hN
 have hb := (BsM.call (L := [(2 :: r, .cells 3 1 xs)]) 1 hB yb (b := g) hy yn ⟨hnn _, trivial⟩) Y g Y g hy hy
 refine g7w [(2 :: r, .cells 3 1 xs)] (j := 1) (f8o hb fun l hl => c1f (L := []) hl) (d8u (fun r => (hB Y g Y g hy hy).fb 2 r yb) hL h) ⟨rfl, ?_⟩ ?_
 . rfl
 . exact c6e
theorem c9i (hy : Shp p Y) (hB : BsM p 2 B) {r : List Nat} {xs : List (List FV)} (hN : n = xs.length) (h : FC Tp Gl 176 [.ptr [81] 8 0 0, .int .i64 o] (HP [] B (MF p Y g)) (.sl (2 :: r) 1 0 n) (HP [(2 :: r, .cells 3 1 xs)] B (MF p Y g))) (hn : nlss xs = true) : FC Tp Gl 176 [.ptr [81] 8 0 0, .int .i64 o] (HP [] B (MF p Y g)) (.list 1 xs) (HP [] B (MF p Y g)) :=
 (show FC Tp Gl 176 [.ptr [81] 8 0 0, .int .i64 o] (HP [] B (MF p Y g)) (.sl (2 :: r) 1 0 xs.length) (upd (HP [] B (MF p Y g)) (2 :: r) (.cells 3 1 xs)) by rw [b4p (a8r p Y g 2 r yb)]; subst hN; exact h).frozen (a2c.2 ⟨a8r p Y g 2 r yb, (hB Y g Y g hy hy).fb 2 r yb⟩) hn (hB Y g Y g hy hy).clo
theorem b3j (l : List Int) (U : FM.Loc -> Prop) : a1h U (ints l) := by
 induction l with
 | nil => trivial
 | cons a l ih => exact ⟨⟨trivial, trivial⟩, ih⟩
theorem c0u {H1 : Heap} {Φ : FV -> Heap -> Prop} {x : Option (List FV)} (h : LFin H Φ H1 x) : LFin H Φ H1 x := h
theorem b1a (hp : VOk p) (hy : Shp p Y) (hB : BsM p j B) (h1 : 1 < j) (hl : hdN j (L.map Prod.fst) = true) (hn : ninL (inH (HP L B (MF p Y g))) L) (o : Int) : FC Tp Gl 202 [.ptr [81] 8 0 0, .int .i64 o] (HP [] (updL L B) (MF p Y g)) (.bool (wrR p Y o)) (HP [] (updL L B) (MF p Y g)) := d2e hp hy (hB.call 1 h1 hy hl hn) o
theorem f9l (hp : VOk p) (hy : Shp p Y) (hB : BsM p 2 B) (h0 : ¬ 0 < o) : FC Tp Gl 176 [.ptr [81] 8 0 0, .int .i64 o] (HP [] B (MF p Y g)) (.sl [2, 1000] 1 0 (oneP p.fu p.fu.length).length) (HP [([2, 1000], .cells 3 1 (ints (oneP p.fu p.fu.length)))] B (MF p Y g)) := by
 have hsv := a0h hp
 have fB : ∀ r, B (2 :: r) = none := fun r => (hB Y g Y g hy hy).fb 2 r yb
 have yl3 := hy.rn
 have hi2 : ∀ (L : LF), inH (HP L B (MF p Y g)) [81] := fun L => a1g a4j
 refine yv Tryz.f176 [.tmp 4] 10 68 [54, 53, 52] 2 ?_
 repeat' first
  | (refine yi ?_; refine a0e (σ := {i : Nat // i <= p.fu.length}) (fun y => [(8, .undef), (9, .undef), (7, .sl [2, 1000] 1 0 (oneP p.fu y.1).length)]) [53, 52] (fun y => [(54, .int .i64 (y.1 : Int))]) [[2, 9]] (fun y => [([2, 1000], .cells 3 1 (ints (oneP p.fu y.1)))]) (fun y => MF p Y g) (fun y => p.fu.length - y.1) ⟨0, by simp⟩ z3d ?_; rintro ⟨i, hi⟩; simp only [lpS, LPXB]; (try dsimp only at hi); rcases a0c hi with hlt | ⟨hlt, rfl⟩; have hnf := hp.nf; have wi := wli hlt ya; have hol := b0f p.fu i; have hs := szn (n := (oneP p.fu i).length + 1) (k := 8) ya yb; have hs2 : (oneP p.fu i).length + 1 <= 4611686018427387904 := ya; by_cases hq : (p.fu[i]'hlt).params = 1)
  | (refine ye ?_; refine a0b (⟨i + 1, by omega⟩) z3e yf)
  | (refine ye ?_; refine a0b (⟨i + 1, by omega⟩) z3f yf)
  | ((with_reducible refine c0u ?_); refine c9j (g := g) (r := [1000]) (xs := ints (oneP p.fu p.fu.length)) hy hB y94 yn y95 (a0g _) (b3j _))
  | with_reducible first | refine a0n (id := 3) 15 a0d yc fun K hK => ?_ | refine yo ?_ | refine stpK ?_; intro K hK | refine stpC ?_; intro T E hT hE | refine stp2 ?_ ?_ <;> intro h | refine yg ?_; clear hK K | refine yh ?_; clear hT hE T E
  | simp [*, -List.all_flatten, -List.all_eq_true, DEFM, LENB, A0c, asR, a1d, a0w, FV.cellV, a0j, a8f, fB, yu, hdN, ze, wy, anR, y3, rmvs, za, FnD.row, Ins.row]
theorem f2k (hp : VOk p) (hy : Shp p Y) (hB : BsM p 2 B) (h0 : 0 < o) (h1 : o < ((a0a p).length : Int)) (hf : f < p.fu.length) (hj : j < p.fu[f].code.length) (hol0 : o.toNat < (a0a p).length) (es : (a0a p)[o.toNat] = ((f : Int), (j : Int))) (q1 : (p.fu[f]'hf).code[j].op = 23) : FC Tp Gl 176 [.ptr [81] 8 0 0, .int .i64 o] (HP [] B (MF p Y g)) (.nils) (HP [] B (MF p Y g)) := by
 have hsv := a0h hp
 have fB : ∀ r, B (2 :: r) = none := fun r => (hB Y g Y g hy hy).fb 2 r yb
 have yl3 := hy.rn
 have hi2 : ∀ (L : LF), inH (HP L B (MF p Y g)) [81] := fun L => a1g a4j
 have es1 : ((a0a p)[o.toNat]'hol0).1 = (f : Int) := by rw [es]
 have es2 : ((a0a p)[o.toNat]'hol0).2 = (j : Int) := by rw [es]
 have hge : 0 <= o := by omega
 clear es
 refine yv Tryz.f176 [.tmp 4] 10 68 [54, 53, 52] 2 ?_
 repeat' first
  | ((with_reducible refine b8o (j := 2) (hB _ _ _ _ hy hy) ?_ ?_ ?_ ?_); (iterate 2 (focus rfl)); (focus (first | rfl | (simp [*]; done))); focus (first | trivial | (simp [nin, nins, a0p, inH, HPXB]; done)))
  | with_reducible first | refine a0n (id := 3) 15 a0d yc fun K hK => ?_ | refine yo ?_ | refine stpK ?_; intro K hK | refine stpC ?_; intro T E hT hE | refine stp2 ?_ ?_ <;> intro h | refine yg ?_; clear hK K | refine yh ?_; clear hT hE T E
  | simp [*, -List.all_flatten, -List.all_eq_true, DEFM, LENB, A0c, asR, a1d, a0w, FV.cellV, a0j, a8f, fB, yu, hdN, ze, wy, anR, y3, rmvs, za, FnD.row, Ins.row]
theorem f2j (hp : VOk p) (hy : Shp p Y) (hB : BsM p 2 B) (h0 : 0 < o) (h1 : o < ((a0a p).length : Int)) (hf : f < p.fu.length) (hj : j < p.fu[f].code.length) (hol0 : o.toNat < (a0a p).length) (es : (a0a p)[o.toNat] = ((f : Int), (j : Int))) (q1 : (p.fu[f]'hf).code[j].op = 24) (q2 : wrR p Y o = false) : FC Tp Gl 176 [.ptr [81] 8 0 0, .int .i64 o] (HP [] B (MF p Y g)) (.sl [2, 47] 1 0 1) (HP [([2, 47], .cells 3 1 ([[.int .i64 (p.fu[f]'hf).code[j].b]]))] B (MF p Y g)) := by
 have hsv := a0h hp
 have fB : ∀ r, B (2 :: r) = none := fun r => (hB Y g Y g hy hy).fb 2 r yb
 have yl3 := hy.rn
 have hi2 : ∀ (L : LF), inH (HP L B (MF p Y g)) [81] := fun L => a1g a4j
 have es1 : ((a0a p)[o.toNat]'hol0).1 = (f : Int) := by rw [es]
 have es2 : ((a0a p)[o.toNat]'hol0).2 = (j : Int) := by rw [es]
 have hge : 0 <= o := by omega
 clear es
 refine yv Tryz.f176 [.tmp 4] 10 68 [54, 53, 52] 2 ?_
 repeat' first
  | ((with_reducible refine cgH ?_); refine a3d rfl (b1a hp hy hB yb yn y90 _) ?_)
  | ((with_reducible refine c0u ?_); refine c9j (g := g) (r := [47]) (xs := [[.int .i64 (p.fu[f]'hf).code[j].b]]) hy hB y94 yn y95 yn (fun _ => ⟨⟨trivial, trivial⟩, trivial⟩))
  | with_reducible first | refine a0n (id := 3) 15 a0d yc fun K hK => ?_ | refine yo ?_ | refine stpK ?_; intro K hK | refine stpC ?_; intro T E hT hE | refine stp2 ?_ ?_ <;> intro h | refine yg ?_; clear hK K | refine yh ?_; clear hT hE T E
  | simp [*, -List.all_flatten, -List.all_eq_true, DEFM, LENB, A0c, asR, a1d, a0w, FV.cellV, a0j, a8f, fB, yu, hdN, ze, wy, anR, y3, rmvs, za, FnD.row, Ins.row, ints, List.map]
theorem e3m (hp : VOk p) (hy : Shp p Y) (hB : BsM p 2 B) (h0 : 0 < o) (h1 : o < ((a0a p).length : Int)) (hf : f < p.fu.length) (hj : j < p.fu[f].code.length) (hol0 : o.toNat < (a0a p).length) (es : (a0a p)[o.toNat] = ((f : Int), (j : Int))) (q1 : (p.fu[f]'hf).code[j].op = 24) (q2 : wrR p Y o = true) : FC Tp Gl 176 [.ptr [81] 8 0 0, .int .i64 o] (HP [] B (MF p Y g)) (.sl [2, 1000] 1 0 (oneP p.fu p.fu.length).length) (HP [([2, 1000], .cells 3 1 (ints (oneP p.fu p.fu.length)))] B (MF p Y g)) := by
 have hsv := a0h hp
 have fB : ∀ r, B (2 :: r) = none := fun r => (hB Y g Y g hy hy).fb 2 r yb
 have yl3 := hy.rn
 have hi2 : ∀ (L : LF), inH (HP L B (MF p Y g)) [81] := fun L => a1g a4j
 have es1 : ((a0a p)[o.toNat]'hol0).1 = (f : Int) := by rw [es]
 have es2 : ((a0a p)[o.toNat]'hol0).2 = (j : Int) := by rw [es]
 have hge : 0 <= o := by omega
 clear es
 refine yv Tryz.f176 [.tmp 4] 10 68 [54, 53, 52] 2 ?_
 repeat' first
  | (refine yi ?_; refine a0e (σ := {i : Nat // i <= p.fu.length}) (fun y => [(8, .undef), (9, .undef), (7, .sl [2, 1000] 1 0 (oneP p.fu y.1).length)]) [53, 52] (fun y => [(54, .int .i64 (y.1 : Int))]) [[2, 9]] (fun y => [([2, 1000], .cells 3 1 (ints (oneP p.fu y.1)))]) (fun y => MF p Y g) (fun y => p.fu.length - y.1) ⟨0, by simp⟩ z3d ?_; rintro ⟨i, hi⟩; simp only [lpS, LPXB]; (try dsimp only at hi); rcases a0c hi with hlt | ⟨hlt, rfl⟩; have hnf := hp.nf; have wi := wli hlt ya; have hol := b0f p.fu i; have hs := szn (n := (oneP p.fu i).length + 1) (k := 8) ya yb; have hs2 : (oneP p.fu i).length + 1 <= 4611686018427387904 := ya; by_cases hq : (p.fu[i]'hlt).params = 1)
  | (refine ye ?_; refine a0b (⟨i + 1, by omega⟩) z3e yf)
  | (refine ye ?_; refine a0b (⟨i + 1, by omega⟩) z3f yf)
  | ((with_reducible refine cgH ?_); refine a3d rfl (b1a hp hy hB yb yn y90 _) ?_)
  | ((with_reducible refine c0u ?_); refine c9j (g := g) (r := [1000]) (xs := ints (oneP p.fu p.fu.length)) hy hB y94 yn y95 (a0g _) (b3j _))
  | with_reducible first | refine a0n (id := 3) 15 a0d yc fun K hK => ?_ | refine yo ?_ | refine stpK ?_; intro K hK | refine stpC ?_; intro T E hT hE | refine stp2 ?_ ?_ <;> intro h | refine yg ?_; clear hK K | refine yh ?_; clear hT hE T E
  | simp [*, -List.all_flatten, -List.all_eq_true, DEFM, LENB, A0c, asR, a1d, a0w, FV.cellV, a0j, a8f, fB, yu, hdN, ze, wy, anR, y3, rmvs, za, FnD.row, Ins.row]
theorem f9k (hp : VOk p) (hy : Shp p Y) (hB : BsM p 2 B) (h0 : 0 < o) (h1 : o < ((a0a p).length : Int)) (hf : f < p.fu.length) (hj : j < p.fu[f].code.length) (hol0 : o.toNat < (a0a p).length) (es : (a0a p)[o.toNat] = ((f : Int), (j : Int))) (q1 : ¬ (p.fu[f]'hf).code[j].op = 23) (q2 : ¬ (p.fu[f]'hf).code[j].op = 24) : FC Tp Gl 176 [.ptr [81] 8 0 0, .int .i64 o] (HP [] B (MF p Y g)) (.sl [2, 1000] 1 0 (oneP p.fu p.fu.length).length) (HP [([2, 1000], .cells 3 1 (ints (oneP p.fu p.fu.length)))] B (MF p Y g)) := by
 have hsv := a0h hp
 have fB : ∀ r, B (2 :: r) = none := fun r => (hB Y g Y g hy hy).fb 2 r yb
 have yl3 := hy.rn
 have hi2 : ∀ (L : LF), inH (HP L B (MF p Y g)) [81] := fun L => a1g a4j
 have es1 : ((a0a p)[o.toNat]'hol0).1 = (f : Int) := by rw [es]
 have es2 : ((a0a p)[o.toNat]'hol0).2 = (j : Int) := by rw [es]
 have hge : 0 <= o := by omega
 clear es
 refine yv Tryz.f176 [.tmp 4] 10 68 [54, 53, 52] 2 ?_
 repeat' first
  | (refine yi ?_; refine a0e (σ := {i : Nat // i <= p.fu.length}) (fun y => [(8, .undef), (9, .undef), (7, .sl [2, 1000] 1 0 (oneP p.fu y.1).length)]) [53, 52] (fun y => [(54, .int .i64 (y.1 : Int))]) [[2, 9]] (fun y => [([2, 1000], .cells 3 1 (ints (oneP p.fu y.1)))]) (fun y => MF p Y g) (fun y => p.fu.length - y.1) ⟨0, by simp⟩ z3d ?_; rintro ⟨i, hi⟩; simp only [lpS, LPXB]; (try dsimp only at hi); rcases a0c hi with hlt | ⟨hlt, rfl⟩; have hnf := hp.nf; have wi := wli hlt ya; have hol := b0f p.fu i; have hs := szn (n := (oneP p.fu i).length + 1) (k := 8) ya yb; have hs2 : (oneP p.fu i).length + 1 <= 4611686018427387904 := ya; by_cases hq : (p.fu[i]'hlt).params = 1)
  | (refine ye ?_; refine a0b (⟨i + 1, by omega⟩) z3e yf)
  | (refine ye ?_; refine a0b (⟨i + 1, by omega⟩) z3f yf)
  | ((with_reducible refine cgH ?_); refine a3d rfl (b1a hp hy hB yb yn y90 _) ?_)
  | ((with_reducible refine c0u ?_); refine c9j (g := g) (r := [1000]) (xs := ints (oneP p.fu p.fu.length)) hy hB y94 yn y95 (a0g _) (b3j _))
  | with_reducible first | refine a0n (id := 3) 15 a0d yc fun K hK => ?_ | refine yo ?_ | refine stpK ?_; intro K hK | refine stpC ?_; intro T E hT hE | refine stp2 ?_ ?_ <;> intro h | refine yg ?_; clear hK K | refine yh ?_; clear hT hE T E
  | simp [*, -List.all_flatten, -List.all_eq_true, DEFM, LENB, A0c, asR, a1d, a0w, FV.cellV, a0j, a8f, fB, yu, hdN, ze, wy, anR, y3, rmvs, za, FnD.row, Ins.row]
theorem c2u (hp : VOk p) (hy : Shp p Y) (hB : BsM p 2 B) (h1 : o < ((a0a p).length : Int)) : FC Tp Gl 176 [.ptr [81] 8 0 0, .int .i64 o] (HP [] B (MF p Y g)) (.list 1 (ints (a2q p Y o))) (HP [] B (MF p Y g)) := by
 by_cases h0 : 0 < o
 . obtain ⟨hol0, f, hf, j, hj, es⟩ := d5m p h0 h1
   have hfu := e6m hy h0 hf hj hol0 es
   by_cases q1 : p.fu[f].code[j].op = 23
   . rw [hfu, if_pos q1]
     exact (f2k hp hy hB h0 h1 hf hj hol0 es q1).asR' (.inr ⟨1, rfl⟩)
   . by_cases q2 : p.fu[f].code[j].op = 24
     . cases q3 : wrR p Y o
       . rw [hfu, if_neg q1, if_pos ⟨q2, q3⟩]
         exact c9i (xs := ints [p.fu[f].code[j].b]) hy hB z2z (f2j hp hy hB h0 h1 hf hj hol0 es q2 q3) (a0g _)
       . rw [hfu, if_neg q1, if_neg (by rw [q3]; simp)]
         exact c9i hy hB z2z (e3m hp hy hB h0 h1 hf hj hol0 es q2 q3) (a0g _)
     . rw [hfu, if_neg q1, if_neg fun h => q2 h.1]
       exact c9i hy hB z2z (f9k hp hy hB h0 h1 hf hj hol0 es q1 q2) (a0g _)
 . rw [f0o h0]
   exact c9i hy hB z2z (f9l hp hy hB h0) (a0g _)
theorem c8d {nm : ByteArray} {pa rg : Int} {c : List Ins} (hc : CodeOk c) : Pq 79 [.agg [.str nm, .int .i64 pa, .int .i64 rg, .list 5 (inss c)]] (.list 3 (bxV c (blks c))) := by
 have h1000 := hc.n1000
 have hs1 : (c.length : Int) + 1 <= 4611686018427387904 := by omega
 have hs2 : (c.length : Int) + 1 <= 281474976710656 := by omega
 have hs0 : (0 : Int) <= (c.length : Int) + 1 := by omega
 have wl1 : IntKind.wrap .i64 ((c.length : Int) + 1) = (c.length : Int) + 1 := by rw [IntKind.wrap_i64]; omega
 have tl1 : ((c.length : Int) + 1).toNat = c.length + 1 := by omega
 have hm0 : (a0k (List.replicate (c.length + 1) false)).modify 0 (fun r => FV.bool true :: r.tail) = a0k ((List.replicate (c.length + 1) false).set 0 true) := a1b _ 0 true yd
 have hp1 : (0 : Int) < (c.length : Int) + 1 := by omega
 have hm1 : (a0k ((List.replicate (c.length + 1) false).set 0 true)).modify c.length (fun r => FV.bool true :: r.tail) = a0k (ldA c [0, (c.length : Int)] 0) := by
  rw [<- g2e]; exact a1b _ _ true yd
 have hne := hc.ne
 have hne2 : ¬ c.length = 0 := by omega
 have hn1 : (c.length : Int) < (c.length : Int) + 1 := by omega
 have hs3 : (c.length : Int) <= 4611686018427387904 := by omega
 have hbk : bkF c c.length = blks c := rfl
 have hnb0 : nmF c c.length = (blks c).length := rfl
 have hs4 : 8 * (c.length : Int) <= 281474976710656 := by omega
 refine yq Tryz.f79 [.tmp 2] 15 144 [31, 30, 29, 37, 89, 88, 103, 102, 101] 0 ?_
 repeat' first
  | (refine yi ?_; refine a0e (σ := {k : Nat // k <= c.length}) (fun y => [(5, .undef), (6, .undef)]) [30, 29] (fun y => [(31, .int .i64 (y.1 : Int))]) [[0, 6]] (fun y => [([0, 22], .cells 4 1 (a0k (ldA c [0, (c.length : Int)] y.1)))]) (fun y => noH) (fun y => c.length - y.1) ⟨0, by simp⟩ (gk3 (j := 0) [] (Bs.pc _) ym ym ym ym ym ym ym) ?_; rintro ⟨k, hk⟩; simp only [lpS, LPXB]; (try dsimp only at hk); rcases a0c hk with hlt | ⟨hlt, e⟩; rotate_left; subst e; have hle := f5f hc; have hlz := a7s c; rotate_left; have hll := c0x c [0, (c.length : Int)] k; have wk := wli hlt ya; have k1 : ((k : Int) + 1).toNat = k + 1 := ya; have k2 : (0 : Int) <= (k : Int) + 1 := ya; have k3 : (k : Int) + 1 < (c.length : Int) + 1 := ya; have k4 : (k : Int) < (c.length : Int) := ya; by_cases hJ : (c[k]'hlt).op = 16 \/ (c[k]'hlt).op = 17 \/ (c[k]'hlt).op = 45; have hs : ldA c [0, (c.length : Int)] (k + 1) = ((ldA c [0, (c.length : Int)] k).set ((c[k]'hlt).c).toNat true).set (k + 1) true := (by rw [ld_j hlt hJ]); obtain ⟨j0, j1, _⟩ := hc.tgt k hlt hJ; have j2 : (c[k]'hlt).c < (c.length : Int) + 1 := ya; have hb1 := a1b (ldA c [0, (c.length : Int)] k) ((c[k]'hlt).c).toNat true ya; have hb2 := a1b ((ldA c [0, (c.length : Int)] k).set ((c[k]'hlt).c).toNat true) (k + 1) true (by rw [A0h]; omega); rw [<- hs] at hb2; rotate_left; by_cases h30 : (c[k]'hlt).op = 30; have hs := ld_r (b := [0, (c.length : Int)]) hlt hJ h30; have hb1 := a1b (ldA c [0, (c.length : Int)] k) (k + 1) true ya; rw [<- hs] at hb1; rotate_left; have hs := ld_n (b := [0, (c.length : Int)]) hlt hJ h30; rotate_left)
  | (refine ye ?_; refine a0b (⟨k + 1, by omega⟩) yg4 yf)
  | (refine yi ?_; refine a0e (σ := {k : Nat // k <= c.length}) (fun y => [(7, .sl [0, 191] 3 0 (nmF c y.1)), (9, .int .i64 (stF c y.1 : Int)), (10, .int .i64 ((y.1 : Int) + 1)), (11, .undef)]) [] (fun y => []) [[0, 83], [0, 84], [0, 85]] (fun y => [([0, 191], .cells 87 3 (brs (bkF c y.1))), ([0, 58], .cells 3 1 (ints (nmL c c.length (stF c y.1))))]) (fun y => noH) (fun y => c.length - y.1) ⟨0, by simp⟩ (gk3 (j := 0) [([0, 191], none)] (Bs.pc _) y18 y18 y18 y18 y18 y18 y18) ?_; rintro ⟨k, hk⟩; simp only [lpS, LPXB]; (try dsimp only at hk); have hnl := b3h c c.length (stF c k); have hnk := c9l c k; have hsk := b4c c k; have hbl : (brs (bkF c k)).length = nmF c k := (by rw [a4f]; rfl); rcases a0c hk with hlt | ⟨hlt, e⟩; rotate_left; subst e; have hse := c5n hc; rotate_left; have wk := wli hlt ya; have wk2 : IntKind.wrap .i64 ((k : Int) + 1 + 1) = (k : Int) + 1 + 1 := zh; have k1 : ((k : Int) + 1).toNat = k + 1 := ya; have k2 : (0 : Int) <= (k : Int) + 1 := ya; have k3 : (k : Int) + 1 < (c.length : Int) + 1 := ya; have k5 : (k : Int) + 1 <= (c.length : Int) := ya; have hll := a7s c; have hgl : (a0k (a1u c))[k + 1]? = some [.bool ((a1u c)[k + 1]'ya)] := a1l ya; by_cases hl : (a1u c)[k + 1]? = some true; have hlb : (a1u c)[k + 1]'ya = true := z2v; rw [hlb] at hgl; have hby := c2g hl; have hsy := c2z hl; have hny : nmF c (k + 1) = nmF c k + 1 := (by rw [nmF, hby, A0b]; rfl); have s1 : (nmF c k + 1 + (nmF c k + 1) / 4 + 192) * 40 <= 140737488355328 := ya; have s2 : nmF c k <= 4611686018427387903 := ya; have htk2 : (brs (bkF c k)).take (nmF c k) = brs (bkF c k) := A6a ya; rotate_left; have hlb : (a1u c)[k + 1]'ya = false := z2v; rw [hlb] at hgl; have hbn := c2h hl; have hsn := c0c hl; have hnn : nmF c (k + 1) = nmF c k := (by rw [nmF, hbn]; rfl); rotate_left)
  | (refine yi ?_; have hl' := hl; have hby' := hby; refine a0e (σ := {j : Nat // stF c k <= j /\ j <= k + 1}) (fun y => [(11, .int .i64 (y.1 : Int))]) [] (fun y => []) [] (fun y => [([0, 58], .cells 3 1 (ints (nmL c c.length y.1)))]) (fun y => noH) (fun y => k + 1 - y.1) ⟨stF c k, A5s _, by omega⟩ yg5 ?_; rintro ⟨j, hj1, hj2⟩; simp only [lpS, LPXB]; (try dsimp only at hj1 hj2); have hnl := b3h c c.length j; rcases cl2 hj2 ya with ⟨hlj, wj⟩ | ⟨hlj, rfl⟩; have hbs := (b5v (c := c) (j := j) k hj1 ya).1; have hnj : nmF c j = nmF c k := (by rw [nmF, hbs]; rfl); have hms := g1m (c := c) (n := c.length) (k := j) ya; have j5 : (j : Int) < (k : Int) + 1 := ya; have j6 : (j : Int) < (c.length : Int) := ya; have hgn : (ints (nmL c c.length j))[j]? = some [.int .i64 ((nmL c c.length j)[j]'ya)] := c4b ya; have hmn := c4a (nmL c c.length j) j (nmF c k : Int) ya; rw [<- hnj, hms] at hmn; rw [hnj] at hmn; rotate_left)
  | (refine ye ?_; refine a0b (⟨j + 1, by omega, by omega⟩) yg5 yf)
  | (refine ye ?_; refine a0b (⟨k + 1, by omega⟩) (gk3 (j := 0) [([0, 191], some [0, 85])] (Bs.pc _) ym ym ym ym ym ym ym) yf)
  | (refine ye ?_; refine a0b (⟨k + 1, by omega⟩) yg5 yf)
  | (refine yi ?_; refine a0e (σ := {j : Nat // j <= (blks c).length}) (fun y => [(12, .undef), (14, .undef)]) [88] (fun y => [(89, .int .i64 (y.1 : Int))]) [] (fun y => [([0, 191], .cells 87 3 (bmx c y.1))]) (fun y => noH) (fun y => (blks c).length - y.1) ⟨0, by simp⟩ (gk3 (j := 0) [] (Bs.pc _) ym ym ym ym ym ym ym) ?_; rintro ⟨j, hj⟩; simp only [lpS, LPXB]; (try dsimp only at hj); have hbm := e1q (c := c) (j := j); rcases a0c hj with hlt | ⟨hlt, e⟩; rotate_left; subst e; have hbe := f7h c; have hbl2 := a5i c (blks c); have htk : (bxV c (blks c)).take (blks c).length = bxV c (blks c) := A6a (by rw [a5i]; exact A5s _); have hnb := a8d c (blks c); rotate_left; have wj := wli hlt ya; obtain ⟨hB, hBl⟩ := a8v hlt; have hBlt := hB.lt; have hjj := g9t hlt; have hat := e1s hlt ((blks c)[j]'hlt) .nils; obtain ⟨e, he⟩ : ∃ e, ((blks c)[j]'hlt).2 = e + 1 := ⟨((blks c)[j]'hlt).2 - 1, by omega⟩; have hle1 : e < c.length := ya; have we : IntKind.wrap .i64 (e : Int) = (e : Int) := zh; have hdl := b2o c e; have hh : hd c e < c.length := ya; have hnx := b6s c (hd c e); have hend := c8z (c := c) ((blks c)[j]'hlt); rw [he, A3p] at hend; have hsj := g9v hlt; rotate_left)
  | (refine yi ?_; refine a0e (σ := {q : Nat // q <= (nx c (hd c e)).length}) (fun y => [(14, .undef)]) [102, 101, 88, 89] (fun y => [(103, .int .i64 (y.1 : Int))]) [[0, 121], [0, 122]] (fun y => [([0, 191], .cells 87 3 (bmj c j ((blks c)[j]'hlt) (.sl [0, 190] 1 0 y.1))), ([0, 190], .cells 3 1 (ints (rawN c (hd c e) y.1)))]) (fun y => noH) (fun y => (nx c (hd c e)).length - y.1) ⟨0, by simp⟩ (gk3 (j := 0) [([0, 190], none)] (Bs.pc _) ym ym ym ym ym ym ym) ?_; rintro ⟨q, hq⟩; simp only [lpS, LPXB]; (try dsimp only at hq); have hrl := c8y hq; have htq : (rawN c (hd c e) q).take q = rawN c (hd c e) q := A6a ya; have hat := e1s hlt ((blks c)[j]'hlt) (.sl [0, 190] 1 0 q); rcases a0c hq with hlq | ⟨hlq, e⟩; rotate_left; subst e; have hne4 : rawN c (hd c e) (nx c (hd c e)).length ≠ [] \/ True := .inr trivial; rotate_left; have wq := wli hlq ya; obtain ⟨v0, v1, _⟩ := a7e hc (A5p hlq); have v2 : ((nx c (hd c e))[q]'hlq) < (c.length : Int) := ya; have hnl2 := b3h c c.length c.length; have hgm := e9u (c := c) (n := c.length) (k := c.length) v1 v1; have hgv : (nmL c c.length c.length)[(((nx c (hd c e))[q]'hlq)).toNat]'ya = (nmF c (((nx c (hd c e))[q]'hlq)).toNat : Int) := z47; have hrs := e9m hlq; have s1 : (q + 1 + (q + 1) / 4 + 192) * 8 <= 140737488355328 := ya; have s2 : q <= 4611686018427387903 := ya; rotate_left)
  | (with_reducible refine b9t (id := 38) [[0, 190]] 15 a0d yc fun K hK => ?_)
  | (refine b8i (j := 11) (e := 3) (x := .tmp 116) (y := .tmp 121) (t := 36) (tx := 36) (Aj := upd noH [0, 121] (.cells 3 1 [[.int .i64 (nmF c (((nx c (hd c e))[q]'hlq)).toNat : Int)]])) [0, 190] [0, 121] (.cells 3 1 (ints (rawN c (hd c e) q))) (.cells 3 1 [[.int .i64 (nmF c (((nx c (hd c e))[q]'hlq)).toNat : Int)]]) 1 (ints (rawN c (hd c e) q) ++ [[.int .i64 (nmF c (((nx c (hd c e))[q]'hlq)).toNat : Int)]]) (.sl [0, 122] 1 0 (q + 1)) yb yc ?_ z1f rfl (A5l rfl) ?_ yc ?_ ?_ ?_ yb ?_ ?_ ?_ ?_; (focus (exact rfl)); (focus (first | rfl | simp)); (iterate 5 (focus (first | rfl | simp [*, SIMB, rmvs, rmv, a2r]))); (focus (simp [*, -List.all_flatten, -List.all_eq_true, yl, f1c, asR, a0q, a0u, a0i, rmvs, rmv, a2r, FV.cellV, a0w, bRow, c2e, e1r, a0o, a0j, a1d])))
  | (refine wg ?_; refine a3h (d4t (l := [0, 190]) (s := rawN c (hd c e) (nx c (hd c e)).length) hrl y23 ya) ?_)
  | (refine wg ?_; refine a3h (b8w (l := [0, 190]) (s := srt (rawN c (hd c e) (nx c (hd c e)).length)) (by rw [a5y]; exact hrl) y23 ya) ?_)
  | (refine ye ?_; refine a0b (⟨q + 1, by omega⟩) (gk3 (j := 0) [([0, 190], some [0, 122])] (Bs.pc _) ym ym ym ym ym ym ym) yf)
  | (refine ye ?_; refine a0b (⟨j + 1, by omega⟩) (Gk.trans (gk3 (j := 0) [] (Bs.pc _) ym ym ym ym ym ym ym) (f0k [0, 190] 3 1 (ints (nxB c ((blks c)[j]'hlt) ++ List.replicate ((nx c (hd c e)).length - (nxB c ((blks c)[j]'hlt)).length) 0)) (fun _ h => h) z48 z48)) yf)
  | with_reducible first | refine a0n (id := 34) 12 a0d yc fun K hK => ?_ | refine yo ?_ | refine stpK ?_; intro K hK | refine stpC ?_; intro T E hT hE | refine stp2 ?_ ?_ <;> intro h | refine cpG (d4w hc hh) ?_ | refine cpG (e9a hc hle1) ?_ | refine yg ?_; clear hK K | refine yh ?_; clear hT hE T E
  | simp [*, -List.all_flatten, -List.all_eq_true, yl, asR, a0q, wa, a1w, z14, a1r, a2b, a9w, Ins.row, bRow, c2e, e1r, f1c, b6d, a5y, rmvs, rmv, a2r, FV.cellV, a0w, a0g]
 all_goals first
  | (exfalso; omega)
theorem f6g (a b : Int) (off : Nat) : ∀ (l : List (Int × Int)) (g : Nat -> Nat) (k : Nat), a7h Tp 98 (.agg [.int .i64 a, .int .i64 b]) (l.mapIdx fun i s => (FV.agg [.int .i64 s.1, .int .i64 s.2], FV.int .i64 ((i : Int) + (off : Int)), g i)) k = some ((l.findIdx? (fun y => decide (y = (a, b)))).map fun n => (k + n, FV.int .i64 ((n : Int) + (off : Int))))
 | [], _, _ => rfl
 | s :: l, g, k => by
   have ih := f6g a b (off + 1) l (fun i => g (i + 1)) (k + 1)
   rw [A3n]
   have hk : eqK Tp 98 (.agg [.int .i64 a, .int .i64 b]) (.agg [.int .i64 s.1, .int .i64 s.2]) = some (decide (s = (a, b))) := by
    obtain ⟨u, v⟩ := s
    by_cases e1 : a = u <;> by_cases e2 : b = v <;> simp [eqK, c1v, c1u, a2l, FV.kd, eqV, e1, e2, Prod.ext_iff, eq_comm]
   simp only [a7h, hk, List.findIdx?_cons]
   by_cases e : s = (a, b)
   . simp [e]
   . simp only [e, decide_false, A4r, if_false, Option.map_map]
     have e2 : (l.mapIdx fun i s => (FV.agg [.int .i64 s.1, .int .i64 s.2], FV.int .i64 (((i + 1 : Nat) : Int) + (off : Int)), g (i + 1))) = l.mapIdx fun i s => (FV.agg [.int .i64 s.1, .int .i64 s.2], FV.int .i64 ((i : Int) + ((off + 1 : Nat) : Int)), g (i + 1)) := by
      congr 1; funext i s
      have : ((i + 1 : Nat) : Int) + (off : Int) = (i : Int) + ((off + 1 : Nat) : Int) := by omega
      rw [this]
     rw [e2, ih]
     congr 1
     cases l.findIdx? (fun y => decide (y = (a, b))) with
     | none => rfl
     | some n =>
       simp only [A0s, Function.comp, A5v, A0i]
       refine ⟨by omega, ?_⟩
       have : (n : Int) + ((off + 1 : Nat) : Int) = ((n + 1 : Nat) : Int) + (off : Int) := by omega
       rw [this]
theorem d7w {l : List (Int × Int)} {c : Nat} (h : H [87] = some (.map (sitE l) c)) (a b : Int) : b2w Tp H 134 (.mp [87]) (.agg [.int .i64 a, .int .i64 b]) false = some (.int .i64 (objR l (a, b) : Nat)) := by
 have hk : a8h Tp 98 (.agg [.int .i64 a, .int .i64 b]) = true := by simp [a8h, c1v, c1u]
 have hf := f6g a b 1 (l.drop 1) (fun i => i) 0
 simp only [b2w, c4h, hk, if_true, h]
 unfold sitE
 have e1 : ((1 : Nat) : Int) = 1 := rfl
 rw [e1] at hf
 rw [hf]
 unfold objR
 cases hx : (l.drop 1).findIdx? (fun y => decide (y = (a, b))) with
 | none => simp [e0d]
 | some n => simp
def bxs (p : Pg) (f pc nr : Nat) (X : Ins) (fk : FuncId) : LF := [([3, 4], .cells 131 1 [[.ptr [81] 8 0 0]]), ([3, 5], .cells 98 2 [[.int .i64 (f : Int), .int .i64 (pc : Int)]]), ([3, 6], .cells 42 5 [X.row]), ([3, 7], .cells 143 1 [[.clo fk [] [.ptr [88] 1 0 0]]]), ([3, 8], .cells 136 1 [[.sl [83, f] 1 0 nr]])]
theorem cl1M (hCT : CT p m fk) (hfk : fnOk Tp fk = true) {hf : f < p.fu.length} (hy : Shp p Y) (hB : BsM p 3 B) (hl : hdN 3 (L.map Prod.fst) = true) (hn : ninL (inH (HP L B (MF p Y g))) L) (hnr : p.fu[f].regs = (nr : Int)) (hX : BxC (updL L B) f nr fk) {e : Int} (ha : isR p.fu[f] a) (he : isR p.fu[f] e) :
 FCr Tp Gl 172 [.int .i64 e, .int .i64 a, .ptr [3, 8] 1 0 0, .ptr [3, 7] 1 0 0, .ptr [3, 4] 1 0 0] (HP [] (updL L B) (MF p Y g)) (OutT p m (updL L B) (fun z => ∀ o ∈ getS z (SL.r f a.toNat), rdC f e z o) Y g) := g6j hCT hfk hy (hB.call 2 yb hy hl hn) hnr hX ha he
theorem cl2M (hCT : CT p m fk) (hfk : fnOk Tp fk = true) {hf : f < p.fu.length} (hy : Shp p Y) (hB : BsM p 3 B) (hl : hdN 3 (L.map Prod.fst) = true) (hn : ninL (inH (HP L B (MF p Y g))) L) (hnr : p.fu[f].regs = (nr : Int)) (hX : BxC (updL L B) f nr fk) {e : Int} (ha : isR p.fu[f] a) (he : isR p.fu[f] e) :
 FCr Tp Gl 173 [.int .i64 a, .int .i64 e, .ptr [3, 8] 1 0 0, .ptr [3, 7] 1 0 0, .ptr [3, 4] 1 0 0] (HP [] (updL L B) (MF p Y g)) (OutT p m (updL L B) (fun z => ∀ o ∈ getS z (SL.r f a.toNat), wrC f e z o) Y g) := g6i hCT hfk hy (hB.call 2 yb hy hl hn) hnr hX ha he
theorem ok1 (h0 : 0 <= o) (h1 : o < ((a0a p).length : Int)) : okA (a0a p).length [o] := ⟨by simp, fun q hq => by simp at hq; subst hq; exact ⟨h0, h1⟩⟩
theorem g8q {C : Pts -> Prop} {Z : Pts} {h : Bool} {to fr : SL} (hT : TR m (inS to (getS Y fr)) (inS to (getS Y fr)) Y g Z h) (hk : ∀ z, C z ↔ subR (getS z to) (getS z fr)) : TR m C C Y g Z h :=
 (TR.id trivial : TR m (fun _ => True) (fun _ => True) Y g Y g).stepk hT fun z => by rw [hk z]; simp
theorem g1x {Z : Pts} {h : Bool} (f pc : Nat) (L : LF) : b2w Tp (HP L B (MF p Z h)) 134 (.mp [87]) (.agg [.int .i64 (f : Int), .int .i64 (pc : Int)]) false = some (.int .i64 (objR (a0a p) ((f : Int), (pc : Int)) : Nat)) := d7w g5p _ _
theorem g4b (hp : VOk p) (hCT : CT p m fk) (hfk : fnOk Tp fk = true) (hf : f < p.fu.length) (hy : Shp p Y) (hB : BsM p 3 B) (hl : hdN 3 (L.map Prod.fst) = true) (hn : ninL (inH (HP L B (MF p Y g))) L) {nb : Nat} (hnr : p.fu[f].regs = (nr : Int)) {X : Ins} (hI : InsOk p p.fu[f] X) (hbr : opR p p.fu[f] X 102 X.b = true) (hxb : X.b = (nb : Int)) (hnb : nb < p.fu.length) (ha : X.op = 26 -> X.a < (nr : Int)) :
 FCr Tp Gl 175 [.ptr [81] 8 0 0, .agg X.row, .sl [83, f] 1 0 nr, .clo fk [] [.ptr [88] 1 0 0]] (HP [] (updL L B) (MF p Y g)) (OutT p m (updL L B) (b8d f X nb p.fu[nb].params.toNat p.fu[nb].code) Y g) := by
 have hB' := hB.call 2 yb hy hl hn
 have hrr := hp.regs (A5p hnb)
 have hfr := hp.regs (A5p hf)
 obtain ⟨k1, k2, k3, k4⟩ := a5e hp (A5p hf) hbr
 have hfa : fnAt p X.b = p.fu[nb] := by unfold fnAt; rw [hxb, A5r, A5m, A5n hnb, A5z]
 rw [hfa] at k4
 have p0 := hrr.p0
 have p1 := hrr.p1
 have r64 := hrr.r64
 have f64 := hfr.r64
 obtain ⟨np, hnp⟩ : ∃ np : Nat, p.fu[nb].params = (np : Int) := ⟨p.fu[nb].params.toNat, by omega⟩
 obtain ⟨nr2, hnr2⟩ : ∃ nr2 : Nat, p.fu[nb].regs = (nr2 : Int) := ⟨p.fu[nb].regs.toNat, by omega⟩
 rw [hnp, A5r]
 have e1 : np <= nr2 := by omega
 have e2 : nr2 <= 64 := by omega
 have e3 : nr <= 64 := by omega
 have e4 : X.c + np <= nr := by omega
 by_cases q1 : X.op = 26
 . by_cases q2 : X.a < 0
   . exact e3n hCT hfk hf hy hB' hnr hxb hnb hnr2 hnp e1 e2 e3 k3 e4 q1 q2
   . exact f2l hCT hfk hf hy hB' hnr hxb hnb hnr2 hnp e1 e2 e3 k3 e4 q1 q2 (ha q1) hrr.c1000 fun n hn h30 => by
      have := (hp.ins _ (A5p hnb) n hn).a
      rw [h30] at this
      have := (a7d (r := 82) this (.inr rfl)).2
      omega
 . exact e3o hCT hfk hf hy hB' hnr hxb hnb hnr2 hnp e1 e2 e3 k3 e4 q1
theorem c6h (hp : VOk p) (hy : Shp p Y) (hB : BsM p 3 B) (hl : hdN 3 (L.map Prod.fst) = true) (hn : ninL (inH (HP L B (MF p Y g))) L) (h1 : o < ((a0a p).length : Int)) : FC Tp Gl 176 [.ptr [81] 8 0 0, .int .i64 o] (HP [] (updL L B) (MF p Y g)) (.list 1 (ints (a2q p Y o))) (HP [] (updL L B) (MF p Y g)) := c2u hp hy (hB.call 2 yb hy hl hn) h1
theorem a8u {l k : FM.Loc} {o : FO} {L : LF} {B A : Heap} : inH (HP ((k, o) :: L) B A) l = (l = k \/ inH (HP L B A) l) := by
 refine propext ⟨fun h => ?_, fun h => ?_⟩
 . by_cases e : l = k
   . exact .inl e
   . refine .inr fun h' => h ?_
     obtain ⟨h1, h2⟩ := a2c.1 h'
     exact a2c.2 ⟨h1, by simpa [updL, upd, e] using h2⟩
 . rcases h with rfl | h
   . exact c6e
   . exact c1f h
theorem gs0 {z : Pts} : getS z (.r f 0) = rg z f 0 := rfl
theorem gsr {z : Pts} : getS z (.r f a.toNat) = rg z f a := a7u z f a
def zt := cj @ze (cj @a8u @wy)
def z15 := cj @a1f (cj @a8u @ze)
theorem f2d {c : List Ins} (hc : CodeOk c) {m : Nat} (IH : ∀ (S : DS) (b : Int), DSok c S -> S.l.count false <= m -> 0 <= b -> b < ((blks c).length : Int) -> ¬ isM S.l b -> FC Tp Gl 135 [.int .i64 b, .ptr [1, 4] 1 0 0, .ptr [1, 3] 1 0 0, .ptr [1, 6] 1 0 0, .ptr [1, 5] 1 0 0] S.H (.tup []) (b4q c m S b).H) {S : DS} {b : Int} {u : Nat} (hu : S.l.count false = u) (h : DSok c S) (hm : S.l.count false <= m + 1) (h0 : 0 <= b) (h1 : b < ((blks c).length : Int)) (hb : ¬ isM S.l b) : FC Tp Gl 135 [.int .i64 b, .ptr [1, 4] 1 0 0, .ptr [1, 3] 1 0 0, .ptr [1, 6] 1 0 0, .ptr [1, 5] 1 0 0] (S.H) (.tup []) ((b4q c (m + 1) S b).H) := by
 obtain ⟨j, rfl⟩ : ∃ j : Nat, b = (j : Int) := ⟨b.toNat, by omega⟩
 obtain ⟨e1, e3, e4, e14, e6, e5, en, eo, ef, ez⟩ := id h
 have hjb : j < (blks c).length := by omega
 have hjl : j < S.l.length := by omega
 have hga := a1l hjl
 have hbm : (a0k S.l).modify j (fun r => FV.bool true :: r.tail) = a0k (mk1 S.l (j : Int)) := a1b S.l j true hjl
 have hA := f0w h h0 h1 hb
 have hcn : (dsA S (j : Int)).l.count false + 1 = S.l.count false := c3s h.len h0 h1 hb
 have hSA : upd S.H [1, 14] (.cells 4 1 (a0k (mk1 S.l (j : Int)))) = (dsA S (j : Int)).H := rfl
 have hAn : (dsA S (j : Int)).on ≠ some u := fun e => by have := (eo u e).2; omega
 have hAf : ∀ r, (dsA S (j : Int)).H (1 :: (100 + u) :: r) = none := fun r => (a5w z1j).trans (ef u ya r)
 have a3 := hA.h3
 have hxn : nxB c (blks c)[j] = nxN c j := (d7l hjb).symm
 have hnl := f4o c hc j
 have hbl := b3w c hc
 have hz0 : (dsA S (j : Int)).od.length = S.od.length := rfl
 refine d1v (res := []) 8 34 [17, 16, 15] (fun d ix => 1 :: (100 + u) :: d :: ix) (fn := Tryz.f135) yc yn yn yn yd yb ?_
 repeat' first
  | (refine yi ?_; refine a5f (fun y : {k : Nat // k <= (nxN c j).length} => (⟨[.int .i64 (j : Int), .ptr [1, 4] 1 0 0, .ptr [1, 3] 1 0 0, .ptr [1, 6] 1 0 0, .ptr [1, 5] 1 0 0, .undef, .undef, .undef], [(17, .int .i64 (y.1 : Int)), (16, .int .i64 ((nxN c j).length : Int)), (15, .list 1 (ints (nxN c j)))], (kidK c m (dsA S (j : Int)) ((nxN c j).take y.1)).H, []⟩ : Fs)) (fun y => (nxN c j).length - y.1) ⟨0, by simp⟩ (Wk.gk (e9y rfl (by simp [*]) (by simp [lk, *]) (HLe.refl _))) ?_; rintro ⟨k, hk⟩; (try dsimp only at hk); have hM0 := d8g (m := m) hc hA ya j k hk; obtain ⟨Tk, hT⟩ := ex_ (kidK c m (dsA S (j : Int)) ((nxN c j).take k)); rw [hT] at hM0; obtain ⟨t1, t3, t4, t14, t6, t5, tn, to, tf, tz⟩ := id hM0.ok; have tct := hM0.ct; have tsz := hM0.sz; obtain ⟨tk1, tk2⟩ := hM0.kp u ya hAn hAf; rcases a0c hk with hlk | ⟨hlk, e⟩; rotate_left; subst e; rw [A0c] at hT; have hfin : (b4q c (m + 1) S (j : Int)).H = (dsZ u Tk (j : Int)).H := (by rw [d5i, hu, A5r, hT]); have s1 : (Tk.od.length + 1 + (Tk.od.length + 1) / 4 + 192) * 8 <= 140737488355328 := ya; have s2 : Tk.od.length <= 4611686018427387903 := ya; have f32 := tk1 [32]; have f33 := tk1 [33]; have htq : (ints Tk.od).take Tk.od.length = ints Tk.od := A6a (by rw [a0o]; exact A5s _); cases hon : Tk.on; rw [hon] at t5; have hod := tn hon; rotate_left; rename_i q; rw [hon] at t5; obtain ⟨tq, tq2⟩ := to q hon; have hqu : ¬ q = u := (fun e => tk2 (by rw [hon, e])); have hqu2 : ¬ u = q := (fun e => hqu e.symm); rotate_left; have wk := wli hlk ya; obtain ⟨hv0, hv1⟩ := c3l hc (A5p hlk); have hvl : (((nxN c j)[k]'hlk)).toNat < Tk.l.length := ya; have hgv : (a0k Tk.l)[(((nxN c j)[k]'hlk)).toNat]? = some [.bool (Tk.l[(((nxN c j)[k]'hlk)).toNat]'hvl)] := a1l hvl; have hks := d8h c m (dsA S (j : Int)) hlk; rw [hT] at hks; by_cases hM : Tk.l[(((nxN c j)[k]'hlk)).toNat]? = some true; rw [if_pos hM] at hks; have hmb : Tk.l[(((nxN c j)[k]'hlk)).toNat]'hvl = true := z45; rw [hmb] at hgv; rotate_left; rw [if_neg hM] at hks; have hmb : Tk.l[(((nxN c j)[k]'hlk)).toNat]'hvl = false := z45; rw [hmb] at hgv; have hcall := IH Tk ((nxN c j)[k]'hlk) hM0.ok ya hv0 hv1 (fun h => hM h.2); rotate_left)
  | (refine ye ?_; refine a0b (⟨k + 1, by omega⟩) (Wk.gk (e9y rfl (by simp [*]) (by simp [lk, *]) (by dsimp only; rw [hks]; exact HLe.refl _))) yf)
  | (refine wg ?_; refine a3h hcall ?_)
  | refine yo ?_
  | (refine stpK ?_; intro K hK)
  | (refine stpC ?_; intro T E hT hE)
  | (refine stp2 ?_ ?_ <;> intro h)
  | (refine yg ?_; clear hK K)
  | (refine yh ?_; clear hT hE T E)
  | simp [*, -List.all_flatten, -List.all_eq_true, yl, wa, a1w, a0i, a1r, upd, cloS, onV, bRow, a5i, f7b, dsZ, d2x, a1z, a5k, a2u, a0j, b4o, a0p]
theorem e3j {s : List Int} {l : FM.Loc} (hz : s.length < 4611686018427387904) : FC Tp Gl 165 [.sl l 1 0 s.length] (upd H l (.cells 3 1 (ints s))) (.sl l 1 0 (s.foldl a0r []).length) (upd H l (.cells 3 1 (ints (s.foldl a0r [] ++ List.replicate (s.length - (s.foldl a0r []).length) 0)))) := by
 refine z1s Tryz.f165 [.tmp 2] 3 7 [] 0 ?_
 repeat' first
  | with_reducible first | refine yo ?_ | refine stpK ?_; intro K hK | refine stpC ?_; intro T E hT hE | refine stp2 ?_ ?_ <;> intro h | refine a3h (d4t (s := s) rfl z1a hz) ?_ | refine a3h (b8w (s := srt s) (a5y s) z1a hz) ?_ | refine yg ?_; clear hK K | refine yh ?_; clear hT hE T E
  | simp [*, -List.all_flatten, -List.all_eq_true, DEFB, b5y, b6d, a5y, b4o, a0p]
theorem d4k {s : List Int} (hn : s.length = n) {l : FM.Loc} (h : H l = some (.cells 3 1 (ints s))) (hz : n < 4611686018427387904) : FC Tp Gl 165 [.sl l 1 0 n] H (.sl l 1 0 (s.foldl a0r []).length) (upd H l (.cells 3 1 (ints (s.foldl a0r [] ++ List.replicate (s.length - (s.foldl a0r []).length) 0)))) := by
 subst hn
 have := e3j (H := H) (l := l) hz
 rwa [a9z h] at this
end Go.Je
