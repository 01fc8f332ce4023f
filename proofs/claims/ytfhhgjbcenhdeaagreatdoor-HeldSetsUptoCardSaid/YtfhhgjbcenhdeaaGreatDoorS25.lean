/- Part. -/
import Derived.Test.YtfhhgjbcenhdeaaGreatDoorS19
set_option linter.all false
set_option maxRecDepth 100000
set_option maxHeartbeats 0
namespace Go.Je
open Go Go.FM Go.Gv Go.Proofs
variable {B H : Heap} {c : List Ins} {i j k n : Nat} {l : List Bool} {nm : ByteArray} {pa rg v : Int}
theorem h0h {p : Pg} (hp : VOk p) {Y : Pts} (hy : Gv.Form p Y) (hB : BsP p 2 B) (hi : i < p.fu.length) (hj : j < (p.fu[i]).code.length) (q : p.fu[i].code[j].op = 48) (h0 : 0 <= p.fu[i].code[j].a) : FC Tp Gl 111 [PA p, .agg [.list 2 (sits (a0a p)), .sl [91] 1 0 p.fu.length, .sl [93] 1 0 (a0a p).length], .int .i64 (i : Int), .int .i64 (j : Int)] (HP [] B (PF Y)) (.tup []) (HP [] B (PF (a1e p i j p.fu[i].code[j] Y))) := by
 have hsv := a0h hp
 have nB : ∀ r, B (2 :: r) = none := fun r => (hB _ _ hy hy).fb 2 r yb
 have nB1 : ∀ r, B (1 :: r) = none := fun r => (hB _ _ hy hy).fb 1 r yb
 have hyn := hy.rn
 have hyc := hy.cn
 have hir : i < Y.regs.length := by omega
 have hI := hp.ins _ (A5p hi) _ (A5p hj)
 have had : -1 <= p.fu[i].code[j].a /\ p.fu[i].code[j].a < p.fu[i].regs := by have := hI.a; rw [q] at this; exact a7d this (.inl rfl)
 obtain ⟨a1, a2, a3, a4, a5, a6⟩ := a1y hy hi (show isR p.fu[i] p.fu[i].code[j].a from ⟨h0, had.2⟩)
 obtain ⟨b1, b2, b3, b4, b5, b6⟩ := a1y hy hi (a5l hp hi hj y7)
 have hst : a1e p i j p.fu[i].code[j] Y = addR Y i p.fu[i].code[j].a (a6b Y (rg Y i p.fu[i].code[j].b)) := by simp [a1e, q, alO, h0]
 rw [b5] at hst
 rw [a3u hir a2] at hst
 have hF := a1o hp hy hi hj
 rw [hst] at hF
 refine yv Tryz.f111 [] 19 389 [34] 2 ?_
 repeat' first
  | (with_reducible refine hfc1 [1, 2] (.cells 49 3 [[.list 2 (sits (a0a p)), .sl [91] 1 0 p.fu.length, .sl [93] 1 0 (a0a p).length]]) (c0a hp hy b6 b1u) ?_)
  | ((with_reducible refine a8x (j := 2) (hB _ _ hy hF) ?_ ?_ ?_ ?_); (iterate 3 (focus rfl)); focus trivial)
  | (refine dk4 ?_; intro K hK)
  | refine zu ?_
  | (refine stpC ?_; intro T E hT hE)
  | (refine stp2 ?_ ?_ <;> intro h)
  | refine cpG (b8m hp a6 (b6r hy _)) ?_
  | (refine yg ?_; clear hK K)
  | (refine yh ?_; clear hT hE T E)
  | simp [*, -List.all_flatten, -List.all_eq_true, zo, a0p, zy, A0h, a0p, a0j, zx, a0v]
theorem h0i {p : Pg} (hp : VOk p) {Y : Pts} (hy : Gv.Form p Y) (hB : BsP p 2 B) (hi : i < p.fu.length) (hj : j < (p.fu[i]).code.length) (q : p.fu[i].code[j].op = 48) (h0 : ¬ 0 <= p.fu[i].code[j].a) : FC Tp Gl 111 [PA p, .agg [.list 2 (sits (a0a p)), .sl [91] 1 0 p.fu.length, .sl [93] 1 0 (a0a p).length], .int .i64 (i : Int), .int .i64 (j : Int)] (HP [] B (PF Y)) (.tup []) (HP [] B (PF (a1e p i j p.fu[i].code[j] Y))) := by
 have hsv := a0h hp
 have nB : ∀ r, B (2 :: r) = none := fun r => (hB _ _ hy hy).fb 2 r yb
 have nB1 : ∀ r, B (1 :: r) = none := fun r => (hB _ _ hy hy).fb 1 r yb
 have hyn := hy.rn
 have hyc := hy.cn
 have hir : i < Y.regs.length := by omega
 have h0' : ¬ p.fu[i].code[j].a ≥ 0 := h0
 have hst : a1e p i j p.fu[i].code[j] Y = Y := by simp [a1e, q, alO, h0]
 have hF := a1o hp hy hi hj
 rw [hst] at hF
 refine yv Tryz.f111 [] 19 389 [34] 2 ?_
 repeat' first
  | ((with_reducible refine a8x (j := 2) (hB _ _ hy hF) ?_ ?_ ?_ ?_); (iterate 3 (focus rfl)); focus trivial)
  | (refine dk4 ?_; intro K hK)
  | refine zu ?_
  | (refine stpC ?_; intro T E hT hE)
  | (refine stp2 ?_ ?_ <;> intro h)
  | (refine yg ?_; clear hK K)
  | (refine yh ?_; clear hT hE T E)
  | simp [*, -List.all_flatten, -List.all_eq_true, zo, a0p, zy, A0h, a0p, a0j, zx, a0v]
theorem f2f (h0 : 0 <= v) (h1 : v < (n : Int)) (hw : H [1, 3] = some (.cells 3 1 [[.int .i64 (-1)]])) (hse : H [1, 5] = some (.cells 37 1 [[.sl [62] 1 0 n]])) (hlb : H [62] = some (.cells 4 1 (a0k l))) (hln : l.length = n) (hm : ¬ l[v.toNat]? = some true) (hf1 : H [1, 26] = none) (hf2 : H [1, 27] = none) {st ju : List Int} (hz : st.length <= 1000000) (hst : H [1, 6] = some (.cells 36 1 [[.sl [1, 90] 1 0 st.length]])) (hls : H [1, 90] = some (.cells 3 1 (ints (st ++ ju)))) : FC Tp Gl 170 [.int .i64 v, .ptr [1, 3] 1 0 0, .ptr [1, 5] 1 0 0, .ptr [1, 6] 1 0 0] (H) (.tup []) (upd (upd (upd (upd (upd H [62] (.cells 4 1 (a0k (mk1 l v)))) [1, 26] (.cells 3 1 [[.int .i64 v]])) [1, 90] .dead) [1, 27] (.cells 3 1 (ints (st ++ [v])))) [1, 6] (.cells 36 1 [[.sl [1, 27] 1 0 (st.length + 1)]])) := by
 have hv : v.toNat < l.length := by omega
 have hga := a1l hv
 have hm1 : ¬ v = -1 := by omega
 have hbm := a1b l v.toNat true hv
 have hmm : l[v.toNat] = false := by
  rw [A5n hv] at hm
  simpa using hm
 rw [hmm] at hga
 have s1 : (st.length + 1 + (st.length + 1) / 4 + 192) * 8 <= 140737488355328 := szB ya
 have s2 : st.length <= 4611686018427387903 := by omega
 refine z1s Tryz.f170 [] 5 28 [] 1 ?_
 repeat' first
  | refine yo ?_
  | (refine stpK ?_; intro K hK)
  | (refine stpC ?_; intro T E hT hE)
  | (refine stp2 ?_ ?_ <;> intro h)
  | (refine yg ?_; clear hK K)
  | (refine yh ?_; clear hT hE T E)
  | simp [*, -List.all_flatten, -List.all_eq_true, yl, wa, a1w, a0i, a1r, upd, b5y, mk1, c9x, b4o, a0p]
theorem f2g (h0 : 0 <= v) (h1 : v < (n : Int)) (hw : H [1, 3] = some (.cells 3 1 [[.int .i64 (-1)]])) (hse : H [1, 5] = some (.cells 37 1 [[.sl [62] 1 0 n]])) (hlb : H [62] = some (.cells 4 1 (a0k l))) (hln : l.length = n) (hm : l[v.toNat]? = some true) : FC Tp Gl 170 [.int .i64 v, .ptr [1, 3] 1 0 0, .ptr [1, 5] 1 0 0, .ptr [1, 6] 1 0 0] (H) (.tup []) (H) := by
 have hv : v.toNat < l.length := by omega
 have hga := a1l hv
 have hm1 : ¬ v = -1 := by omega
 have hbm := a1b l v.toNat true hv
 have hmm : l[v.toNat] = true := by rw [A5n hv] at hm; simpa using hm
 rw [hmm] at hga
 refine z1s Tryz.f170 [] 5 28 [] 1 ?_
 repeat' first
  | refine yo ?_
  | (refine stpK ?_; intro K hK)
  | (refine stpC ?_; intro T E hT hE)
  | (refine stp2 ?_ ?_ <;> intro h)
  | (refine yg ?_; clear hK K)
  | (refine yh ?_; clear hT hE T E)
  | simp [*, -List.all_flatten, -List.all_eq_true, yl, wa, a1w, a0i, a1r, upd, b5y, b4o, a0p]
theorem f2h (h0 : 0 <= v) (h1 : v < (n : Int)) (hw : H [1, 3] = some (.cells 3 1 [[.int .i64 (-1)]])) (hse : H [1, 5] = some (.cells 37 1 [[.sl [1, 14] 1 0 n]])) (hlb : H [1, 14] = some (.cells 4 1 (a0k l))) (hln : l.length = n) (hm : ¬ l[v.toNat]? = some true) (hf1 : H [1, 26] = none) (hf2 : H [1, 27] = none) (hst : H [1, 6] = some (.cells 36 1 [[.nils]])) : FC Tp Gl 170 [.int .i64 v, .ptr [1, 3] 1 0 0, .ptr [1, 5] 1 0 0, .ptr [1, 6] 1 0 0] (H) (.tup []) (upd (upd (upd (upd H [1, 14] (.cells 4 1 (a0k (mk1 l v)))) [1, 26] (.cells 3 1 [[.int .i64 v]])) [1, 27] (.cells 3 1 [[.int .i64 v]])) [1, 6] (.cells 36 1 [[.sl [1, 27] 1 0 1]])) := by
 have hv : v.toNat < l.length := by omega
 have hga := a1l hv
 have hm1 : ¬ v = -1 := by omega
 have hbm := a1b l v.toNat true hv
 have hmm : l[v.toNat] = false := by
  rw [A5n hv] at hm
  simpa using hm
 rw [hmm] at hga
 refine z1s Tryz.f170 [] 5 28 [] 1 ?_
 repeat' first
  | refine yo ?_
  | (refine stpK ?_; intro K hK)
  | (refine stpC ?_; intro T E hT hE)
  | (refine stp2 ?_ ?_ <;> intro h)
  | (refine yg ?_; clear hK K)
  | (refine yh ?_; clear hT hE T E)
  | simp [*, -List.all_flatten, -List.all_eq_true, yl, wa, a1w, a0i, a1r, upd, b5y, mk1, b4o, a0p]
theorem b6u : ∀ (l : List Int), l = [] \/ ∃ m o, l = m ++ [o]
 | [] => .inl rfl
 | a :: r => by
   rcases b6u r with rfl | ⟨m, o, rfl⟩
   . exact .inr ⟨[], a, rfl⟩
   . exact .inr ⟨a :: m, o, rfl⟩
theorem g5x (hc : CodeOk c) : wtV (mk1 (List.replicate c.length false) 0, [0]) <= 3000 := by
 have h1 := hc.n1000
 have h2 := List.count_le_length (a := false) (l := mk1 (List.replicate c.length false) 0)
 rw [b3l, A0u] at h2
 unfold wtV
 simp only [A1x]
 omega
theorem f2a (hc : CodeOk c) (hB : BsV B) : FC Tp Gl 129 [.agg [.str nm, .int .i64 pa, .int .i64 rg, .list 5 (inss c)], .int .i64 (-1)] (HP [] B noH) (.sl [62] 1 0 c.length) (HP [([62], .cells 4 1 (a0k (rcL c)))] B noH) := by
 have fB : ∀ r, B (1 :: r) = none := fun r => hB.fr 1 r yb
 have f62 := hB.f62
 have h1000 := hc.n1000
 have hne := hc.ne
 have hne1 : (0 : Int) < (c.length : Int) := by omega
 have hs1 : (c.length : Int) <= 4611686018427387904 := by omega
 have hs2 : (c.length : Int) <= 281474976710656 := by omega
 refine yv Tryz.f129 [.tmp 4] 11 49 [40, 39, 38] 1 ?_
 repeat' first
  | ((with_reducible refine g7v hB ?_ ?_); (focus (simp [fB, f62]; done)); (focus (simp [HPXB, fB, f62]; done)))
  | (refine yi ?_; refine a0e (σ := {y : (List Bool × List Int) × List Int // Vst c y.1.1 y.1.2 /\ wtV y.1 <= 3000}) (fun y => [(8, .undef), (10, .undef)]) [] (fun y => []) [[1, 14], [1, 26], [1, 27]] (fun y => [([1, 5], .cells 37 1 [[.sl [62] 1 0 c.length]]), ([62], .cells 4 1 (a0k y.1.1.1)), ([1, 6], .cells 36 1 [[.sl [1, 90] 1 0 y.1.1.2.length]]), ([1, 90], .cells 3 1 (ints (y.1.1.2 ++ y.1.2)))]) (fun y => noH) (fun y => wtV y.1.1) ⟨((mk1 (List.replicate c.length false) 0, [0]), []), Vst.init hc, g5x hc⟩ (gk5S [([62], some [1, 14]), ([1, 90], some [1, 27])] rfl hB.c5 hB.l5 y52 y52 yy y54 y54 y54) ?_; rintro ⟨⟨⟨l, st⟩, ju⟩, hV, hw⟩; simp only [lpS, LPXB]; (try dsimp only at hV hw); have hln := hV.len; rcases b6u st with e | ⟨m, o, e⟩; subst e; have hfin := hV.fin hc; have hrl := a9k c; have htk : (rcL c).take c.length = rcL c := A6a (by rw [a9k]; exact A5s _); rotate_left; subst e; have ho := hV.stk o yd; have ho1 := c3z ho; obtain ⟨i, hio⟩ : ∃ i : Nat, o = (i : Int) := ⟨o.toNat, by have := ho.1; omega⟩; subst hio; have hil : i < c.length := ya; obtain ⟨hV2, hw2⟩ := hV.pop hc; simp only [A5r] at hV2 hw2; have hml : m.length <= 3000 := (by unfold wtV at hw; simp at hw; omega); have g1 : (ints (m ++ (i : Int) :: ju))[m.length]? = some [.int .i64 (i : Int)] := (by simp [ints, a0j]); have wm3 : (m.length : Int) < (m.length : Int) + 1 := ya; have wm : IntKind.wrap .i64 (m.length : Int) = (m.length : Int) := zh; have wm2 : (0 : Int) < (m.length : Int) + 1 := ya; rotate_left)
  | (refine yi ?_; refine a0e (σ := {y : Nat × ((List Bool × List Int) × List Int) // y.1 <= (nx c i).length /\ pshs l m ((nx c i).take y.1) = y.2.1}) (fun y => [(10, .undef)]) [39, 38] (fun y => [(40, .int .i64 (y.1.1 : Int))]) [] (fun y => [([1, 5], .cells 37 1 [[.sl [62] 1 0 c.length]]), ([62], .cells 4 1 (a0k y.1.2.1.1)), ([1, 6], .cells 36 1 [[.sl [1, 90] 1 0 y.1.2.1.2.length]]), ([1, 90], .cells 3 1 (ints (y.1.2.1.2 ++ y.1.2.2)))]) (fun y => noH) (fun y => (nx c i).length - y.1.1) ⟨(0, ((l, m), (i : Int) :: ju)), by simp, rfl⟩ yg8 ?_; rintro ⟨⟨k, ⟨l2, st2⟩, ju2⟩, hk, he⟩; simp only [lpS, LPXB]; (try dsimp only at hk he); have hps := g1b l m ((nx c i).take k) (fun o ho => by obtain ⟨a1, a2, _⟩ := a7e hc (A0t ho); omega); rw [he] at hps; have hl2 : l2.length = c.length := (by have := hps.len; simp only at this; omega); have hst2 : st2.length <= 1000000 := (by have h1 := hps.wt; have h2 := hw; unfold wtV at h1 h2; simp at h1 h2; omega); have hnl : (nx c i).length <= 1000 := (b6s c i); rcases a0c hk with hlt | ⟨hlt, e⟩; rotate_left; subst e; rw [A0c] at he; rw [he] at hV2 hw2; rotate_left; have wi := wli hlt ya; obtain ⟨hv0, hv1', _⟩ := a7e hc (A5p hlt); have hv1 : (nx c i)[k] < (c.length : Int) := ya; have hpt := d7a l m hlt; rw [he] at hpt; by_cases hmY : l2[((nx c i)[k]).toNat]? = some true; have hp2 : psh (l2, st2) (nx c i)[k] = (l2, st2) := (by unfold psh; rw [if_pos hmY]); rw [hp2] at hpt; rotate_left; have hmN := hmY; have hp2 : psh (l2, st2) (nx c i)[k] = (mk1 l2 (nx c i)[k], st2 ++ [(nx c i)[k]]) := (by unfold psh; rw [if_neg hmY]); rw [hp2] at hpt; rotate_left)
  | (refine wg ?_; refine a3h (f2h (n := c.length) (l := List.replicate c.length false) (v := 0) ya ya y23 y23 (by first | simp [HPXB, a1k] <;> fail | fail) yd (by intro h; have := A1b h; simp at this <;> fail) y59 y59 y59) ?_)
  | (refine wg ?_; refine a3h (f2g (l := l2) hv0 hv1 y59 y59 y59 hl2 hmY) ?_)
  | (refine wg ?_; refine a3h (f2f (l := l2) (st := st2) (ju := ju2) hv0 hv1 y59 y59 y59 hl2 hmN y59 y59 hst2 y59 y59) ?_)
  | (refine ye ?_; refine a0b (⟨(k + 1, ((l2, st2), ju2)), by omega, hpt⟩) yg8 yf)
  | (refine ye ?_; refine a0b (⟨(k + 1, ((mk1 l2 (nx c i)[k], st2 ++ [(nx c i)[k]]), [])), by omega, hpt⟩) (gk5S [([1, 90], some [1, 27])] rfl hB.c5 hB.l5 y60 y60 yy y60 y60 y60) yf)
  | (refine ye ?_; refine a0b (⟨((l2, st2), ju2), hV2, by dsimp only at hw2 hw ⊢; omega⟩) yg8 yf)
  | refine yo ?_
  | (refine stpK ?_; intro K hK)
  | (refine stpC ?_; intro T E hT hE)
  | (refine stp2 ?_ ?_ <;> intro h)
  | refine cpG (d4w hc hil) ?_
  | (refine yg ?_; clear hK K)
  | (refine yh ?_; clear hT hE T E)
  | simp [*, -List.all_flatten, -List.all_eq_true, yl, asR, a0q, wa, a1w, z14, a1r, c9x, a2b, a9w]
open Classical in
noncomputable def rK (c : List Ins) (k : Nat) : List Bool := (List.range c.length).map fun i => decide (Rc c (if i < k then hd c i else i))
theorem c9a (c : List Ins) (k : Nat) : (rK c k).length = c.length := by simp [rK]
theorem rK_0 (c : List Ins) : rK c 0 = rcL c := by
 unfold rK rcL
 refine A1f fun i _ => decide_eq_decide.2 ?_
 rw [if_neg ya]
theorem g0y (c : List Ins) : rK c c.length = a2d c := by
 unfold rK a2d
 refine A1f fun i hi => ?_
 rw [A2k] at hi
 simp [hi]
theorem d6w (h : i < (rK c k).length) : (rK c k)[i] = true ↔ Rc c (if i < k then hd c i else i) := by simp [rK]
theorem d6v {a b : List Bool} (hl : a.length = b.length) (h : ∀ i (h1 : i < a.length) (h2 : i < b.length), a[i] = true ↔ b[i] = true) : a = b := A0e hl fun i h1 h2 => A2n.2 (h i h1 h2)
theorem rK_s (hc : CodeOk c) (hk : k < c.length) {b : Bool} (hb : b = true ↔ Rc c (hd c k)) : (rK c k).set k b = rK c (k + 1) := by
 refine d6v (by simp [c9a]) fun i h1 h2 => ?_
 rw [d6w, A1e]
 split
 . rename_i e; subst e
   rw [if_pos ya]; exact hb
 . rename_i e
   rw [d6w]
   by_cases e2 : i < k
   . rw [if_pos e2, if_pos ya]
   . rw [if_neg e2, if_neg ya]
theorem g7j (hk : k < c.length) (e : c[k].op ≠ 51) : rK c (k + 1) = rK c k := by
 refine d6v (by simp [c9a]) fun i h1 h2 => ?_
 rw [d6w, d6w]
 by_cases e2 : i < k
 . rw [if_pos e2, if_pos ya]
 . rw [if_neg e2]
   split
   . have : i = k := by omega
     subst this
     rw [a5o hk e]
   . rfl
theorem g7k (hc : CodeOk c) (hk : k < c.length) : ∃ h : hd c k < (rK c k).length, ((rK c k)[hd c k] = true ↔ Rc c (hd c k)) := by
 have h1 := b2o c k
 refine ⟨by rw [c9a]; omega, ?_⟩
 rw [d6w]
 have : hd c (hd c k) = hd c k := a5o ya (d3e hc k hk ya)
 split
 . rw [this]
 . rfl
theorem c7s (B : Heap) : ∀ L1 L2 : LF, updL L1 (updL L2 B) = updL (L1 ++ L2) B
 | [], _ => rfl
 | (l, o) :: r, L2 => by
   show upd (updL r (updL L2 B)) l o = upd (updL (r ++ L2) B) l o
   rw [c7s B r L2]
theorem e7w {P : Program} {c : Cfg} {ops : Array Oper} {o : Oper} {rest : List Oper} {K : Fs -> Prop} {s : Fs} {f : FuncId} {A : List FV} {r : FV} {L1 L : LF} {Af Af' : Heap} (hs : s.H = HP L B Af) (hfc : FC P c.G f A (HP [] (updL L B) Af) r (HP L1 (updL L B) Af')) (h : StK P c ops rest K (putD c o r { s with H := HP (L1 ++ L) B Af' })) : a9b P c ops o rest K s f true A := by
 refine a3d hs hfc ?_
 have e : HP L1 (updL L B) Af' = HP (L1 ++ L) B Af' := by unfold HP; rw [c7s]
 rw [e]; exact h
theorem g1n (nm : ByteArray) (pa rg : Int) (c : List Ins) (U : FM.Loc -> Prop) : a1h U [[.str nm, .int .i64 pa, .int .i64 rg, .list 5 (inss c)]] := ⟨⟨trivial, trivial, trivial, a1p c, trivial⟩, trivial⟩
theorem c5pc : Clo (ext noH noH) := fun _ _ h => zr
theorem l5pc : ∀ l, (fun _ : FM.Loc => False) l -> ext noH noH l ≠ none := fun _ h => h.elim
theorem f7g {r : List Nat} {T : TypeId} {sz : Nat} {xs : List (List FV)} (h : ∀ U, a1h U xs) (hk : 2 <= k) (hk2 : k ≠ 62) : BsV (updL [(k :: r, .cells T sz xs)] noH) := by
 refine ⟨fun q s hq => ?_, ?_, fun l o hl => ?_⟩
 . simp only [yw, upd]
   rw [if_neg (by intro e; injection e; omega)]; rfl
 . simp only [yw, upd]
   rw [if_neg (by intro e; injection e with e1 e2; exact hk2 e1.symm)]; rfl
 . simp only [yw, upd] at hl
   split at hl
   . obtain rfl := A5o hl
     exact h _
   . cases hl
theorem f2q (hc : CodeOk c) : Pq 78 [.agg [.str nm, .int .i64 pa, .int .i64 rg, .list 5 (inss c)]] (.list 1 (a0k (a2d c))) := by
 have h1000 := hc.n1000
 refine yq Tryz.f78 [.tmp 2] 5 30 [9, 8] 2 ?_
 repeat' first
  | (refine wg ?_; refine e7w rfl (f2a hc (f7g (g1n _ _ _ _) yb yb)) ?_)
  | (refine yi ?_; refine a0e (σ := {k : Nat // k <= c.length}) (fun y => [(4, .undef)]) [8] (fun y => [(9, .int .i64 (y.1 : Int))]) [] (fun y => [([62], .cells 4 1 (a0k (rK c y.1)))]) (fun y => noH) (fun y => c.length - y.1) ⟨0, by simp⟩ (gk5S [] rfl c5pc l5pc y71 y71 yy y71 y71 y71) ?_; rintro ⟨k, hk⟩; simp only [lpS, LPXB]; (try dsimp only at hk); have hrl := c9a c k; rcases a0c hk with hlt | ⟨hlt, e⟩; rotate_left; subst e; have hend := g0y c; have htk : (a2d c).take c.length = a2d c := A6a (by rw [a4w]; exact A5s _); have hrl2 := a4w c; rotate_left; have wi := wli hlt ya; have hhl := b2o c k; have hhl2 : hd c k < c.length := ya; obtain ⟨hx, hb⟩ := g7k hc hlt; have hga : (a0k (rK c k))[hd c k]? = some [.bool ((rK c k)[hd c k]'hx)] := a1l hx; have hbm := a1b (rK c k) k ((rK c k)[hd c k]'hx) ya; rw [rK_s hc hlt hb] at hbm; by_cases o51 : (c[k]'hlt).op = 51; rotate_left; have hno := g7j hlt o51; rotate_left)
  | (refine ye ?_; refine a0b (⟨k + 1, by omega⟩) (gk5S [] rfl c5pc l5pc y60 y60 yy y60 y60 y60) yf)
  | refine yo ?_
  | (refine stpK ?_; intro K hK)
  | (refine stpC ?_; intro T E hT hE)
  | (refine stp2 ?_ ?_ <;> intro h)
  | refine cpG (e9a hc hlt) ?_
  | (refine yg ?_; clear hK K)
  | (refine yh ?_; clear hT hE T E)
  | simp [*, -List.all_flatten, -List.all_eq_true, yl, asR, a0q, wa, a1w, a0i, a1r, a2b, a9w, Ins.row]
theorem d4n (hc : CodeOk c) : Pq 87 [.agg [.str nm, .int .i64 pa, .int .i64 rg, .list 5 (inss c)]] (.list 1 (a0k (a1u c))) := by
 have h1000 := hc.n1000
 have hs1 : (c.length : Int) + 1 <= 4611686018427387904 := by omega
 have hs2 : (c.length : Int) + 1 <= 281474976710656 := by omega
 have hs0 : (0 : Int) <= (c.length : Int) + 1 := by omega
 have wl1 : IntKind.wrap .i64 ((c.length : Int) + 1) = (c.length : Int) + 1 := by rw [IntKind.wrap_i64]; omega
 have tl1 : ((c.length : Int) + 1).toNat = c.length + 1 := by omega
 have hm0 : (a0k (List.replicate (c.length + 1) false)).modify 0 (fun r => FV.bool true :: r.tail) = a0k (ldA c [0] 0) := a1b _ 0 true yd
 have hp1 : (0 : Int) < (c.length : Int) + 1 := by omega
 refine yq Tryz.f87 [.tmp 2] 6 46 [26] 0 ?_
 repeat' first
  | (with_reducible refine g4o (id := 11) [[0, 10]] 8 a0d yc fun K hK => ?_)
  | (refine f7x [0, 10] (.cells 4 1 (a0k (ldA c [0] k))) (.cells 4 1 (a0k ((ldA c [0] k).set (k + 1) true))) 4 (.tmp 37) (.const (.bool true)) 1 (k + 1) 0 yb yc (by first | simp [a0x] <;> fail | fail) yn yn yd (by first | simp [rmvs, a2r] <;> fail | fail) y23 y29 (by first | simp [DEFB, a6u, upd, cv, cv1, FV.cellV, FV.cellsL, FV.storable, wa, a1w, rv, hll, *] <;> fail | fail) (by intro j Aj h1 h2; have h3 := A1b h1; simp at h3; subst h3; exact absurd rfl h2) ?_)
  | with_reducible first | refine f7y yb rfl yc z1f rfl ?_ | refine f5r rfl (A5l rfl) ?_ | refine e1x yb ?_
  | (refine yi ?_; refine a0e (σ := {k : Nat // k <= c.length}) (fun y => [(4, .int .i64 (y.1 : Int)), (5, .undef)]) [] (fun y => []) [[0, 5]] (fun y => [([0, 10], .cells 4 1 (a0k (ldA c [0] y.1)))]) (fun y => noH) (fun y => c.length - y.1) ⟨0, by simp⟩ (gk3 (j := 0) [] (Bs.pc _) y32 y32 y32 y32 y32 y32 y32) ?_; rintro ⟨k, hk⟩; simp only [lpS, LPXB]; (try dsimp only at hk); rcases a0c hk with hlt | ⟨hlt, e⟩; rotate_left; subst e; have hle : ldA c [0] c.length = a1u c := rfl; have hlz := a7s c; have htk : (a1u c).take (c.length + 1) = a1u c := A6a (by rw [a7s]; exact A5s _); rotate_left; have hll := c0x c [0] k; have wk := wli hlt ya; have k1 : ((k : Int) + 1).toNat = k + 1 := ya; have k2 : (0 : Int) <= (k : Int) + 1 := ya; have k3 : (k : Int) + 1 < (c.length : Int) + 1 := ya; have k4 : (k : Int) < (c.length : Int) := ya; by_cases hJ : (c[k]'hlt).op = 16 \/ (c[k]'hlt).op = 17 \/ (c[k]'hlt).op = 45; have hs : ldA c [0] (k + 1) = ((ldA c [0] k).set (k + 1) true).set ((c[k]'hlt).c).toNat true := (by rw [ld_j hlt hJ]; exact f3h _ _ _); obtain ⟨j0, j1, _⟩ := hc.tgt k hlt hJ; have j2 : (c[k]'hlt).c < (c.length : Int) + 1 := ya; have hb1 := a1b (ldA c [0] k) (k + 1) true ya; have hb2 := a1b ((ldA c [0] k).set (k + 1) true) ((c[k]'hlt).c).toNat true (by rw [A0h]; omega); rw [<- hs] at hb2; rotate_left; by_cases h30 : (c[k]'hlt).op = 30; have hs := ld_r (b := [0]) hlt hJ h30; have hb1 := a1b (ldA c [0] k) (k + 1) true ya; rw [<- hs] at hb1; rotate_left; have hs := ld_n (b := [0]) hlt hJ h30; rotate_left)
  | (refine ye ?_; refine a0b (⟨k + 1, by omega⟩) yg4 yf)
  | refine yo ?_
  | (refine stpK ?_; intro K hK)
  | (refine stpC ?_; intro T E hT hE)
  | (refine stp2 ?_ ?_ <;> intro h)
  | (refine yg ?_; clear hK K)
  | (refine yh ?_; clear hT hE T E)
  | simp [*, -List.all_flatten, -List.all_eq_true, yl, asR, a0q, wa, a1w, z14, a1r, a2b, a9w, Ins.row, rmvs, rmv, a2r]
 all_goals first
  | (exfalso; omega)
theorem d5a (hc : CodeOk c) (hi : i < c.length) : Pq 48 [.agg [.str nm, .int .i64 pa, .int .i64 rg, .list 5 (inss c)], .int .i64 i] (.int .i64 (hd c i)) := by
 have h1000 := hc.n1000
 refine yq Tryz.f48 [.tmp 4] 5 26 [] 0 ?_
 repeat' first
  | (refine yi ?_; refine a0e (σ := {k : Nat // k <= i /\ hd c k = hd c i}) (fun y => [(1, .int .i64 (y.1 : Int))]) [] (fun y => []) [] (fun y => []) (fun y => noH) (fun y => y.1) ⟨i, A5s _, rfl⟩ yt ?_; rintro ⟨k, hk, he⟩; simp only [lpS, LPXB]; (try dsimp only at hk); have hkl : k < c.length := ya; have wk : IntKind.wrap .i64 (k : Int) = (k : Int) := zh; rcases A1v k with e0 | h0; subst e0; have hz : hd c i = 0 := (by rw [<- he]; rfl); rotate_left; by_cases o51 : c[k].op = 51; obtain ⟨m, rfl⟩ : ∃ m, k = m + 1 := ⟨k - 1, by omega⟩; have wm : IntKind.wrap .i64 (m : Int) = (m : Int) := zh; have p1 : (0 : Int) <= (m : Int) + 1 := ya; have p2 : (0 : Int) < (m : Int) + 1 := ya; have p3 : (m : Int) + 1 < (c.length : Int) := ya; have hm : hd c m = hd c i := (by rw [<- he, hd_s hkl o51]); rotate_left; have hz : hd c i = k := (by rw [<- he]; exact a5o hkl o51); have h0' : (0 : Int) < (k : Int) := ya; rotate_left)
  | (refine ye ?_; refine a0b (⟨m, by omega, hm⟩) yt yf)
  | refine yo ?_
  | (refine stpK ?_; intro K hK)
  | (refine stpC ?_; intro T E hT hE)
  | (refine stp2 ?_ ?_ <;> intro h)
  | (refine yg ?_; clear hK K)
  | (refine yh ?_; clear hT hE T E)
  | simp [*, -List.all_flatten, -List.all_eq_true, yl, asR, a0q, Ins.row]
theorem c5i (hc : CodeOk c) (hi : i < c.length) : Pq 19 [.agg [.str nm, .int .i64 pa, .int .i64 rg, .list 5 (inss c)], .int .i64 i] (.list 1 (ints (nx c i))) := by
 have hn := c5v hi
 have h1000 := hc.n1000
 have wi : IntKind.wrap .i64 ((i : Int) + 1) = (i : Int) + 1 := by rw [IntKind.wrap_i64]; omega
 have hb := fun e => (hc.sel i hi e).1
 have wb : c[i].op = 50 -> IntKind.wrap .i64 ((i : Int) + 1 + c[i].b) = (i : Int) + 1 + c[i].b := fun e => by
  have := hb e
  rw [IntKind.wrap_i64]; omega
 have i0 : ¬ (i : Int) < 0 := by omega
 have i1 : ¬ (c.length : Int) <= (i : Int) := by omega
 refine yq Tryz.f19 [.tmp 4] 7 56 [22] 0 ?_
 repeat' first
  | with_reducible first | refine a0n (id := 13) 7 a0d yc fun K hK => ?_ | refine yo ?_ | refine stpK ?_; intro K hK | refine stpC ?_; intro T E hT hE | refine stp2 ?_ ?_ <;> intro h | refine cpG (d4r _) ?_ | refine a1v (c2w _ _ yd) (by simp [nls, nl, *, NLXB]) ?_ | refine hpc (c2w _ _ yd) (by simp [nls, nl, *, NLXB]) ?_ | refine yg ?_; clear hK K | refine yh ?_; clear hT hE T E
  | simp [*, -List.all_flatten, -List.all_eq_true, yl, asR, a0q, Ins.row, a1z]
def nxV (l : List Int) : FV := match l with
 | [] => .nils
 | _ :: _ => .list 1 (ints l)
def ouW (k : Nat) (l : List Int) : FV := match k with
 | 0 => .nils
 | _ + 1 => .list 1 (ints l)
theorem d2u (l : List Int) : ouW 0 l = .nils := rfl
theorem g1h (k : Nat) (l : List Int) : ouW (k + 1) l = .list 1 (ints l) := rfl
theorem d7p (l : List Int) : nl (nxV l) = true := by cases l <;> simp [nxV, nl, a0g]
theorem d7o (k : Nat) (l : List Int) : nl (ouW k l) = true := by cases k <;> simp [ouW, nl, a0g]
theorem c5t (β : FM.Loc -> Option FM.Loc) (k : Nat) (l : List Int) : ren β (ouW k l) = ouW k l := by cases k <;> rfl
theorem c6d (β : FM.Loc -> Option FM.Loc) (U : FM.Loc -> Prop) (k : Nat) (l : List Int) : inn β U (ouW k l) := by cases k <;> simp [ouW, inn, a0g]
def bxW (c : List Ins) (B : List (Nat × Nat)) : List (List FV) := B.map fun b => bRow b (nxV (nxB c b))
theorem a6k (c : List Ins) (B : List (Nat × Nat)) : (bxW c B).length = B.length := by simp [bxW]
theorem a6z (c : List Ins) : ∀ B : List (Nat × Nat), nlss (bxW c B) = true
 | [] => rfl
 | b :: B => by simpa [bxW, nlss, nls, nl, bRow, d7p] using a6z c B
def bwx (c : List Ins) (j : Nat) : List (List FV) := bxW c ((blks c).take j) ++ brs ((blks c).drop j)
def bwj (c : List Ins) (j : Nat) (b : Nat × Nat) (v : FV) : List (List FV) := bxW c ((blks c).take j) ++ bRow b v :: brs ((blks c).drop (j + 1))
theorem c7b : (bwx c j).length = (blks c).length := by simp [bwx, a4f, a6k]; omega
theorem e1n (h : j < (blks c).length) (b : Nat × Nat) (v : FV) : (bwj c j b v).length = (blks c).length := by simp [bwj, a4f, a6k]; omega
theorem e5a (c : List Ins) (j : Nat) : nlss (bwx c j) = true := by rw [bwx, a1j, a6z, a4o]; rfl
theorem g9r (c : List Ins) : bwx c 0 = brs (blks c) := by simp [bwx, bxW]
theorem f7c (c : List Ins) : bwx c (blks c).length = bxW c (blks c) := by simp [bwx, brs]
theorem g9q (h : j < (blks c).length) : bwx c j = bwj c j (blks c)[j] .nils := by
 unfold bwx bwj
 rw [A1r h]; rfl
theorem g9s (h : j < (blks c).length) : bwj c j (blks c)[j] (nxV (nxB c (blks c)[j])) = bwx c (j + 1) := by
 unfold bwx bwj
 rw [A0n h]
 unfold bxW
 rw [A1s, A3g]; rfl
theorem e1o (h : j < (blks c).length) (b : Nat × Nat) (v : FV) : (bwj c j b v)[j]? = some (bRow b v) := by
 unfold bwj
 have e : (bxW c ((blks c).take j)).length = j := by rw [a6k, A0j]; omega
 rw [A0k ya, e, A4y]; rfl
theorem f7e (h : j < (blks c).length) (b : Nat × Nat) (v : FV) (h' : j < (bwj c j b v).length) : (bwj c j b v)[j] = bRow b v := by
 have := e1o h b v
 rw [A5n h'] at this
 exact A5o this
theorem f7d (h : j < (blks c).length) (b : Nat × Nat) (v u : FV) (g : List FV -> List FV) (hg : g (bRow b v) = bRow b u) : (bwj c j b v).modify j g = bwj c j b u := by
 unfold bwj
 have e : (bxW c ((blks c).take j)).length = j := by rw [a6k, A0j]; omega
 refine A4c fun i => ?_
 rw [A5a]
 by_cases h1 : i < j
 . rw [A0f ya, A0f ya]
   have : ¬ j = i := by omega
   simp [this]
 . rw [A0k ya, A0k ya, e]
   by_cases h2 : i = j
   . subst h2
     simp [hg]
   . obtain ⟨q, hq⟩ : ∃ q, i - j = q + 1 := ⟨i - j - 1, by omega⟩
     have : ¬ j = i := by omega
     rw [hq]
     simp [this]
theorem f3v (β : FM.Loc -> Option FM.Loc) (c : List Ins) (j : Nat) (b : Nat × Nat) (v : FV) : renss β (bwj c j b v) = bwj c j b (ren β v) := by
 unfold bwj
 rw [a6a, a6y (a6z c _)]
 show _ ++ (rens β (bRow b v) :: renss β _) = _
 rw [a6y (a4o _)]
 rfl
theorem f5n (β : FM.Loc -> Option FM.Loc) (U : FM.Loc -> Prop) (c : List Ins) (j : Nat) (b : Nat × Nat) (v : FV) : a3z β U (bwj c j b v) ↔ inn β U v := by
 unfold bwj
 rw [a6d]
 constructor
 . intro h; exact h.2.1.2.2.1
 . intro h; exact ⟨b0o (a6z c _), ⟨trivial, trivial, h, trivial⟩, b0o (a4o _)⟩
theorem g4e (h : j < (blks c).length) (b : Nat × Nat) (v u : FV) : (bwj c j b v).modify j (fun r => List.take 2 r ++ u :: List.drop 3 r) = bwj c j b u := f7d h b v u _ rfl
theorem g9y (c : List Ins) : bkR c 0 = [] := rfl
theorem c9q (B : List (List FV)) (r u : List FV) (f : List FV -> List FV) (h : f r = u) : (B ++ [r]).modify B.length f = B ++ [u] := by
 refine A4c fun i => ?_
 rw [A5a]
 rcases A3e i B.length with h1 | h1 | h1
 . have : ¬ B.length = i := by omega
   rw [A0f h1, A0f h1]
   simp [this]
 . subst h1
   simp [h]
 . rw [A5y yz, A5y yz]; rfl
theorem f7l (h : ¬ (a1u c)[k]? = some true) (hk : 0 < k) : ∃ m, (bkR c k).length = m + 1 /\ (bkR c (k + 1)).length = m + 1 /\ m = nmF c k /\ (∃ x, (brs (bkR c k))[m]? = some [.int .i64 x, .int .i64 (k : Int), .nils]) /\ (brs (bkR c k)).modify m (fun r => List.take 1 r ++ .int .i64 ((k : Int) + 1) :: List.drop 2 r) = brs (bkR c (k + 1)) := by
 obtain ⟨B, x, h1, h2⟩ := g9x h hk
 have hl : (bkR c (k + 1)).length = nmF c k + 1 := c7e
 have hB : B.length = nmF c k := by rw [h2] at hl; simpa using hl
 refine ⟨B.length, by rw [h1]; simp, by rw [h2]; simp, hB, ⟨x, ?_⟩, ?_⟩
 . rw [h1, b8f, b8e, A0k (by rw [a4f]; omega), a4f, A4y]; rfl
 . rw [h1, h2, b8f, b8f, b8e, b8e]
   have := c9q (brs B) [.int .i64 (x : Int), .int .i64 (k : Int), .nils] [.int .i64 (x : Int), .int .i64 ((k + 1 : Nat) : Int), .nils] (fun r => List.take 1 r ++ .int .i64 ((k : Int) + 1) :: List.drop 2 r) yd
   rw [a4f] at this
   exact this
theorem f7n (h : (a1u c)[k]? = some true) : ∃ m, (bkR c k).length = m /\ (bkR c (k + 1)).length = m + 1 /\ m = nmF c k /\ (brs (bkR c k) ++ [[FV.int .i64 (k : Int), FV.int .i64 0, FV.nils]])[m]? = some [.int .i64 (k : Int), .int .i64 0, .nils] /\ (brs (bkR c k) ++ [[FV.int .i64 (k : Int), FV.int .i64 0, FV.nils]]).modify m (fun r => List.take 1 r ++ .int .i64 ((k : Int) + 1) :: List.drop 2 r) = brs (bkR c (k + 1)) := by
 have e : bkR c (k + 1) = bkR c k ++ [(k, k + 1)] := by
  rcases A1v k with rfl | hk
  . rfl
  . exact g9w h hk
 have hl : (bkR c (k + 1)).length = nmF c k + 1 := c7e
 have hB : (bkR c k).length = nmF c k := by rw [e] at hl; simpa using hl
 refine ⟨(bkR c k).length, rfl, by rw [e]; simp, hB, ?_, ?_⟩
 . rw [A0k (by rw [a4f]; omega), a4f, A4y]; rfl
 . rw [e, b8f, b8e]
   have := c9q (brs (bkR c k)) [.int .i64 (k : Int), .int .i64 0, .nils] [.int .i64 (k : Int), .int .i64 ((k + 1 : Nat) : Int), .nils] (fun r => List.take 1 r ++ .int .i64 ((k : Int) + 1) :: List.drop 2 r) yd
   rw [a4f] at this
   exact this
theorem g4i {B : List (Nat × Nat)} (h : i < (brs B).length) : ((brs B)[i]).length = 3 := by simp [brs, bRow]
theorem e6p {l : List Int} (h : l.foldl a0r [] = []) : l = [] := by
 cases l with
 | nil => rfl
 | cons a l =>
   have : a ∈ (a :: l).foldl a0r [] := (b2j (a :: l) []).2 (.inr yd)
   rw [h] at this; cases this
theorem f4i (b : Nat × Nat) : ouW (nx c (hd c (b.2 - 1))).length ((rawN c (hd c (b.2 - 1)) (nx c (hd c (b.2 - 1))).length).foldl a0r []) = nxV (nxB c b) := by
 rw [c8z]
 cases e : nx c (hd c (b.2 - 1)) with
 | nil =>
   have : nxB c b = [] := by unfold nxB; rw [e]; rfl
   rw [this]; rfl
 | cons a r =>
   cases e2 : nxB c b with
   | nil =>
     have := e6p e2
     rw [e] at this; cases this
   | cons x y => rfl
theorem b1b {l : List Int} (n : Int) (h0 : k = 0 -> l = []) (hl : l.length <= 999999990) : Pq 49 [ouW k l, .int .i64 n] (.list 1 (ints (a0r l n))) := by
 cases k with
 | zero => obtain rfl := h0 rfl; exact d4r n
 | succ k => exact c2w l n hl
theorem e5m (l : List Int) : (l.foldl a0r []).length <= l.length := by
 have key : ∀ (s a : List Int), (s.foldl a0r a).length <= a.length + s.length := by
  intro s
  induction s with
  | nil => simp
  | cons x s ih =>
    intro a
    have := ih (a0r a x)
    have h2 : (a0r a x).length <= a.length + 1 := b4w a x
    simp only [A2i, A1a]
    omega
 simpa using key l []
theorem c2x (hc : CodeOk c) : Pq 50 [.agg [.str nm, .int .i64 pa, .int .i64 rg, .list 5 (inss c)]] (.list 3 (bxW c (blks c))) := by
 have h1000 := hc.n1000
 have hs1 : (c.length : Int) + 1 <= 4611686018427387904 := by omega
 have hs2 : (c.length : Int) + 1 <= 281474976710656 := by omega
 have hs0 : (0 : Int) <= (c.length : Int) + 1 := by omega
 have wl1 : IntKind.wrap .i64 ((c.length : Int) + 1) = (c.length : Int) + 1 := by rw [IntKind.wrap_i64]; omega
 have tl1 : ((c.length : Int) + 1).toNat = c.length + 1 := by omega
 have hp1 : (0 : Int) < (c.length : Int) + 1 := by omega
 have hs4 : 8 * ((c.length : Int) + 1) <= 281474976710656 := by omega
 have hbl0 := b3w c hc
 have hl0 : (a1u c)[0]? = some true := by
  have := ((a3y hc (v := 0)).2 (.inl rfl)).2
  exact this
 refine yq Tryz.f50 [.tmp 2] 10 87 [] 0 ?_
 repeat' first
  | (refine yi ?_; refine a0e (σ := {k : Nat // k <= c.length}) (fun y => [(4, .sl [0, 191] 3 0 (bkR c y.1).length), (6, .int .i64 (y.1 : Int))]) [] (fun y => []) [] (fun y => [([0, 191], .cells 87 3 (brs (bkR c y.1))), ([0, 16], .cells 3 1 (ints (nmL c (c.length + 1) y.1)))]) (fun y => noH) (fun y => c.length - y.1) ⟨0, by simp⟩ (gk3 (j := 0) [([0, 191], none)] (Bs.pc _) yp yp yp yp yp yp yp) ?_; rintro ⟨k, hk⟩; simp only [lpS, LPXB]; (try dsimp only at hk); have hnl := b3h c (c.length + 1) k; have hbl := a4f (bkR c k); have htk : (brs (bkR c k)).take (bkR c k).length = brs (bkR c k) := A6a ya; rcases a0c hk with hlt | ⟨hlt, e⟩; rotate_left; subst e; have hbe : bkR c c.length = blks c := f7m hc; rotate_left; have wk := wli hlt ya; have hll := a7s c; have hbk1 := c7e (c := c) (k := k); have hnk := c9l c k; have hms := g1m (c := c) (n := c.length + 1) (k := k) ya; have hmn := c4a (nmL c (c.length + 1) k) k (nmF c k : Int) ya; rw [hms] at hmn; have hgn : (ints (nmL c (c.length + 1) k))[k]? = some [.int .i64 ((nmL c (c.length + 1) k)[k]'ya)] := c4b ya; have k4 : (k : Int) < (c.length : Int) + 1 := ya; have hgl : (a0k (a1u c))[k]? = some [.bool ((a1u c)[k]'ya)] := a1l ya; by_cases hl : (a1u c)[k]? = some true; have hlb : (a1u c)[k]'ya = true := z2v; rw [hlb] at hgl; obtain ⟨m, hm1, hm2, hm3, hm4, hm5⟩ := f7n hl; rw [<- hm3] at hmn hnk; clear hm3 hbk1 hms; have hml : (m : Int) < (m : Int) + 1 := ya; have htk2 : (brs (bkR c k)).take m = brs (bkR c k) := (by rw [<- hm1]; exact htk); have s1 : (m + 1 + (m + 1) / 4 + 192) * 40 <= 140737488355328 := ya; have s2 : m <= 4611686018427387903 := ya; have wm : IntKind.wrap .i64 (m : Int) = (m : Int) := zh; rotate_left; have hlb : (a1u c)[k]'ya = false := z2v; rw [hlb] at hgl; have hk0 : 0 < k := (Nat.pos_of_ne_zero fun e => by subst e; exact hl hl0); obtain ⟨m, hm1, hm2, hm3, ⟨xm, hm4⟩, hm5⟩ := f7l hl hk0; rw [<- hm3] at hmn hnk; clear hm3 hbk1 hms; have hml : (m : Int) < (m : Int) + 1 := ya; have wm : IntKind.wrap .i64 (m : Int) = (m : Int) := zh; rotate_left)
  | (refine ye ?_; refine a0b (⟨k + 1, by omega⟩) (gk3 (j := 0) [([0, 191], some [0, 32])] (Bs.pc _) yp yp yp yp yp yp yp) yf)
  | (refine ye ?_; refine a0b (⟨k + 1, by omega⟩) (gk3 (j := 0) [] (Bs.pc _) yp yp yp yp yp yp yp) yf)
  | (refine yi ?_; refine a0e (σ := {j : Nat // j <= (blks c).length}) (fun y => [(7, .int .i64 (y.1 : Int)), (8, .undef), (9, .undef)]) [] (fun y => []) [] (fun y => [([0, 191], .cells 87 3 (bwx c y.1))]) (fun y => noH) (fun y => (blks c).length - y.1) ⟨0, by simp⟩ (gk3 (j := 0) [] (Bs.pc _) yp yp yp yp yp yp yp) ?_; rintro ⟨j, hj⟩; simp only [lpS, LPXB]; (try dsimp only at hj); have hbm := c7b (c := c) (j := j); rcases a0c hj with hlt | ⟨hlt, e⟩; rotate_left; subst e; have hbe := f7c c; have hbl2 := a6k c (blks c); have htk : (bxW c (blks c)).take (blks c).length = bxW c (blks c) := A6a (by rw [a6k]; exact A5s _); have hnb := a6z c (blks c); rotate_left; have wj := wli hlt ya; obtain ⟨hB, hBl⟩ := a8v hlt; have hBlt := hB.lt; have hjj := g9q hlt; have hat := e1o hlt ((blks c)[j]'hlt) .nils; obtain ⟨e, he⟩ : ∃ e, ((blks c)[j]'hlt).2 = e + 1 := ⟨((blks c)[j]'hlt).2 - 1, by omega⟩; have hle1 : e < c.length := ya; have we : IntKind.wrap .i64 (e : Int) = (e : Int) := zh; have hdl := b2o c e; have hh : hd c e < c.length := ya; have hnx := b6s c (hd c e); have hend := f4i (c := c) ((blks c)[j]'hlt); rw [he, A3p] at hend; have hsj := g9s hlt; rotate_left)
  | (refine yi ?_; refine a0e (σ := {q : Nat // q <= (nx c (hd c e)).length}) (fun y => [(9, .int .i64 (y.1 : Int))]) [] (fun y => []) [] (fun y => [([0, 191], .cells 87 3 (bwj c j ((blks c)[j]'hlt) (ouW y.1 ((rawN c (hd c e) y.1).foldl a0r []))))]) (fun y => noH) (fun y => (nx c (hd c e)).length - y.1) ⟨0, by simp⟩ (gk3 (j := 0) [] (Bs.pc _) yp yp yp yp yp yp yp) ?_; rintro ⟨q, hq⟩; simp only [lpS, LPXB]; (try dsimp only at hq); have hrl := c8y hq; have hat := e1o hlt ((blks c)[j]'hlt) (ouW q ((rawN c (hd c e) q).foldl a0r [])); rcases cl2 hq ya with ⟨hlq, wq⟩ | ⟨hlq, rfl⟩; obtain ⟨v0, v1, _⟩ := a7e hc (A5p hlq); have v2 : ((nx c (hd c e))[q]'hlq) < (c.length : Int) + 1 := ya; have v3 : (((nx c (hd c e))[q]'hlq)).toNat < c.length + 1 := ya; have hnl2 := b3h c (c.length + 1) c.length; have hgm := e9u (c := c) (n := c.length + 1) (k := c.length) v3 v1; have hgv : (nmL c (c.length + 1) c.length)[(((nx c (hd c e))[q]'hlq)).toNat]'ya = (nmF c (((nx c (hd c e))[q]'hlq)).toNat : Int) := z47; have hrs := e9m hlq; have hfs : ((rawN c (hd c e) (q + 1)).foldl a0r []) = a0r ((rawN c (hd c e) q).foldl a0r []) (nmF c (((nx c (hd c e))[q]'hlq)).toNat : Int) := (by rw [hrs, A0z]; rfl); have tW := b1b (k := q) (l := ((rawN c (hd c e) q).foldl a0r [])) (nmF c (((nx c (hd c e))[q]'hlq)).toNat : Int) (by intro e; subst e; rfl) (A0a (e5m _) ya); rw [<- hfs] at tW; clear hrs; obtain ⟨fq, hfq⟩ := ex_ (((rawN c (hd c e) q).foldl a0r [])); obtain ⟨fq1, hfq1⟩ := ex_ (((rawN c (hd c e) (q + 1)).foldl a0r [])); rw [hfq1, hfq] at tW; clear hfs; rotate_left)
  | (refine ye ?_; refine a0b (⟨q + 1, by omega⟩) (gk3 (j := 0) [] (Bs.pc _) yp yp yp yp yp yp yp) yf)
  | (refine ye ?_; refine a0b (⟨j + 1, by omega⟩) (gk3 (j := 0) [] (Bs.pc _) yp yp yp yp yp yp yp) yf)
  | ((with_reducible refine a1v tW z2w ?_))
  | ((with_reducible refine hpc tW z2w ?_))
  | with_reducible first | refine a0n (id := 18) 17 a0d yc fun K hK => ?_ | refine dk1 ?_; intro K hK | refine yo ?_ | refine stpC ?_; intro T E hT hE | refine stp2 ?_ ?_ <;> intro h | refine cpG (d4n hc) ?_ | refine cpG (c5i hc hh) ?_ | refine cpG (d5a hc hle1) ?_ | refine yg ?_; clear hK K | refine yh ?_; clear hT hE T E
  | simp [*, -List.all_flatten, -List.all_eq_true, yl, asR, a0q, wa, a1w, z14, c1b, f4q, a1r, a2b, a9w, Ins.row, bRow, e1n, f7e, g4e, c7b, rmvs, rmv, a2r, FV.cellV, a0w, a0g, d7o, g4i]
 all_goals first
  | (exfalso; omega)
theorem e5e (hm : l[v.toNat]? = some true) : mk1 l v = l := by
 unfold mk1
 obtain ⟨h1, h2⟩ := A0q.1 hm
 rw [<- h2]
 exact A2q h1
theorem g1s (l : List Bool) {s : List Int} (h : i < s.length) : mkL l (s.take (i + 1)) = mk1 (mkL l (s.take i)) s[i] := by
 rw [A0n h, b9e]
 rfl
theorem e5d {s : List Int} (hs : ∀ o ∈ s, 0 <= o /\ o < (l.length : Int)) (h : l[i]? = some true) : (mkL l s)[i]? = some true := by
 have := (isM_mkL (v := (i : Int)) s l hs).2 (.inl ⟨by omega, by simpa using h⟩)
 simpa using this.2
theorem g7g (h : (rdN c l k)[k]? = some true) : rdN c l (k + 1) = mkL (rdN c l k) (nx c k) := by rw [d2s, if_pos h]
theorem g7h (h : ¬ (rdN c l k)[k]? = some true) : rdN c l (k + 1) = rdN c l k := by rw [d2s, if_neg h]
theorem f9m (hc : CodeOk c) : Pq 47 [.agg [.str nm, .int .i64 pa, .int .i64 rg, .list 5 (inss c)], .int .i64 (-1)] (.list 1 (a0k (rcL c))) := by
 have h1000 := hc.n1000
 have hne := hc.ne
 have hne1 : (0 : Int) < (c.length : Int) := by omega
 have hne2 : ¬ c.length = 0 := by omega
 have hs1 : (c.length : Int) <= 4611686018427387904 := by omega
 have hs2 : (c.length : Int) <= 281474976710656 := by omega
 have hm0 : (a0k (List.replicate c.length false)).modify 0 (fun r => FV.bool true :: r.tail) = a0k (mk1 (List.replicate c.length false) 0) := a1b _ 0 true (by simpa using hne)
 have hg0 : (a0k (List.replicate c.length false))[0]? = some [.bool false] := by
  rw [a1l (by simpa using hne)]; simp
 refine yq Tryz.f47 [.tmp 4] 10 71 [] 0 ?_
 repeat' first
  | (refine yi ?_; refine a0e (σ := {y : List Bool × Bool // Swp c y.1 y.2}) (fun y => [(6, .bool y.1.2), (7, .undef), (8, .undef), (9, .undef)]) [] (fun y => []) [] (fun y => [([0, 13], .cells 4 1 (a0k y.1.1))]) (fun y => noH) (fun y => muS y.1.1 y.1.2) ⟨(mk1 (List.replicate c.length false) 0, true), Swp.init hc⟩ (gk3 (j := 0) [] (Bs.pc _) z18 z18 z18 z18 z18 z18 z18) ?_; rintro ⟨⟨l, mr⟩, hS⟩; simp only [lpS, LPXB]; (try dsimp only at hS); have hln := hS.len; cases mr; have hfin := hS.fin hc; have hrl := a9k c; have htk : (rcL c).take c.length = rcL c := A6a (by rw [a9k]; exact A5s _); rotate_left)
  | (refine yi ?_; refine a0e (σ := {y : Nat × (List Bool × Bool) // y.1 <= c.length /\ rdN c l y.1 = y.2.1 /\ chg l y.2.1 y.2.2}) (fun y => [(6, .bool y.1.2.2), (7, .int .i64 (y.1.1 : Int)), (8, .undef), (9, .undef)]) [] (fun y => []) [] (fun y => [([0, 13], .cells 4 1 (a0k y.1.2.1))]) (fun y => noH) (fun y => c.length - y.1.1) ⟨(0, (l, false)), by simp, rfl, g9g l⟩ yg4 ?_; rintro ⟨⟨i, l1, m1⟩, hi, he, hg⟩; simp only [lpS, LPXB]; (try dsimp only at hi he hg); have hl1 : l1.length = c.length := (by rw [<- he, b1i]; exact hln); rcases a0c hi with hlt | ⟨hlt, e⟩; rotate_left; subst e; subst he; obtain ⟨hS2, hmu⟩ := hS.next hc hg; rotate_left; have wi := wli hlt ya; have hnl : (nx c i).length <= 1000 := (b6s c i); have hnb : ∀ o ∈ nx c i, 0 <= o /\ o < (l1.length : Int) := (fun o ho => by obtain ⟨a1, a2, _⟩ := a7e hc ho; omega); by_cases hbi : l1[i]? = some true; have hry := g7g (c := c) (l := l) (k := i) (by rw [he]; exact hbi); rw [he] at hry; rotate_left; have hrn := g7h (c := c) (l := l) (k := i) (by rw [he]; exact hbi); rw [he] at hrn; have hbf : l1[i]'ya = false := (by rw [A5n ya] at hbi; simpa using hbi); have hga : (a0k l1)[i]? = some [.bool (l1[i]'ya)] := a1l ya; rw [hbf] at hga; rotate_left)
  | (refine yi ?_; have hbi' : l1[i]? = some true := hbi; have hry' := hry; refine a0e (σ := {y : Nat × (List Bool × Bool) // y.1 <= (nx c i).length /\ mkL l1 ((nx c i).take y.1) = y.2.1 /\ chg l y.2.1 y.2.2}) (fun y => [(6, .bool y.1.2.2), (9, .int .i64 (y.1.1 : Int))]) [] (fun y => []) [] (fun y => [([0, 13], .cells 4 1 (a0k y.1.2.1))]) (fun y => noH) (fun y => (nx c i).length - y.1.1) ⟨(0, (l1, m1)), by simp, rfl, hg⟩ yg4 ?_; rintro ⟨⟨k, l2, m2⟩, hk, hek, hgk⟩; simp only [lpS, LPXB]; (try dsimp only at hk hek hgk); have hl2 : l2.length = c.length := (by rw [<- hek, a9o]; exact hl1); have hkp := e5d (l := l1) (s := (nx c i).take k) (fun o ho => hnb o (A0t ho)) hbi'; rw [hek] at hkp; have hkt : l2[i]'ya = true := (by rw [A5n ya] at hkp; simpa using hkp); have hga : (a0k l2)[i]? = some [.bool (l2[i]'ya)] := a1l ya; rw [hkt] at hga; rcases a0c hk with hlk | ⟨hlk, e⟩; rotate_left; subst e; rw [A0c] at hek; rw [hek] at hry; rotate_left; have wk := wli hlk ya; obtain ⟨hv0, hv1', _⟩ := a7e hc (A5p hlk); have hvl : ((nx c i)[k]).toNat < l2.length := ya; have hvm1 : ¬ (nx c i)[k] = -1 := ya; have hvl2 : (nx c i)[k] < (c.length : Int) := ya; have hmt := g1s l1 hlk; rw [hek] at hmt; have hgv : (a0k l2)[((nx c i)[k]).toNat]? = some [.bool (l2[((nx c i)[k]).toNat]'hvl)] := a1l hvl; have hbm := a1b l2 ((nx c i)[k]).toNat true hvl; by_cases hmY : l2[((nx c i)[k]).toNat]? = some true; have hms := e5e hmY; have hmb : l2[((nx c i)[k]).toNat]'hvl = true := z4i; rw [hmb] at hgv; rw [hms] at hmt; rotate_left; have hmb : l2[((nx c i)[k]).toNat]'hvl = false := z4i; rw [hmb] at hgv; have hgy := f6v hgk hv0 ya hmY; rotate_left)
  | (refine yi ?_; have hbf' : l1[i]'ya = false := hbf; have hrn' := hrn; refine a0e (σ := {k : Nat // k = 0}) (fun y => [(6, .bool m1), (9, .int .i64 (y.1 : Int))]) [] (fun y => []) [] (fun y => [([0, 13], .cells 4 1 (a0k l1))]) (fun y => noH) (fun y => 0) ⟨0, rfl⟩ yg4 ?_; rintro ⟨k, hk⟩; simp only [lpS, LPXB]; (try dsimp only at hk); subst hk)
  | (refine ye ?_; refine a0b (⟨(k + 1, (l2, m2)), by omega, hmt, hgk⟩) yg4 yf)
  | (refine ye ?_; refine a0b (⟨(k + 1, (mk1 l2 (nx c i)[k], true)), by omega, hmt, hgy⟩) (gk3 (j := 0) [] (Bs.pc _) z18 z18 z18 z18 z18 z18 z18) yf)
  | (refine ye ?_; refine a0b (⟨(i + 1, (l2, m2)), by omega, hry, hgk⟩) yg4 yf)
  | (refine ye ?_; refine a0b (⟨(i + 1, (l1, m1)), by omega, hrn, hg⟩) yg4 yf)
  | (refine ye ?_; refine a0b (⟨(rdN c l c.length, m1), hS2⟩) yg4 yf)
  | refine yo ?_
  | (refine stpK ?_; intro K hK)
  | (refine stpC ?_; intro T E hT hE)
  | (refine stp2 ?_ ?_ <;> intro h)
  | refine cpG (c5i hc hlt) ?_
  | (refine yg ?_; clear hK K)
  | (refine yh ?_; clear hT hE T E)
  | simp [*, -List.all_flatten, -List.all_eq_true, yl, asR, a0q, wa, a1w, z14, a1r, a2b, a9w]
end Go.Je
