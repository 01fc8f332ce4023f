/- Part. -/
import Derived.Test.YtfhhgjbcenhdeaaGreatDoorS17
set_option linter.all false
set_option maxRecDepth 100000
set_option maxHeartbeats 0
namespace Go.Je
open Go Go.FM Go.Gv Go.Proofs
variable {B : Heap} {Y : Pts} {i j : Nat} {p : Pg}
theorem a_18 (hp : VOk p) (hy : Gv.Form p Y) (hB : BsP p 2 B) (hi : i < p.fu.length) (hj : j < (p.fu[i]).code.length) (q : p.fu[i].code[j].op = 18) : FC Tp Gl 111 [PA p, .agg [.list 2 (sits (a0a p)), .sl [91] 1 0 p.fu.length, .sl [93] 1 0 (a0a p).length], .int .i64 (i : Int), .int .i64 (j : Int)] (HP [] B (PF Y)) (.tup []) (HP [] B (PF (a1e p i j p.fu[i].code[j] Y))) := by
 have hsv := a0h hp
 have nB : ∀ r, B (2 :: r) = none := fun r => (hB _ _ hy hy).fb 2 r yb
 have nB1 : ∀ r, B (1 :: r) = none := fun r => (hB _ _ hy hy).fb 1 r yb
 have hyn := hy.rn
 have hyc := hy.cn
 have hir : i < Y.regs.length := by omega
 obtain ⟨a1, a2, a3, a4, a5, a6⟩ := a1y hy hi (a3l hp hi hj y7)
 have ho : 0 <= (0 : Int) /\ (0 : Int) < ((a0a p).length : Int) := ⟨by decide, by have := a5z p; omega⟩
 have hst : a1e p i j p.fu[i].code[j] Y = addR Y i p.fu[i].code[j].a [0] := by simp [a1e, q]
 rw [a3u hir a2] at hst
 have hF := a1o hp hy hi hj
 rw [hst] at hF
 refine yv Tryz.f111 [] 19 389 [34] 2 ?_
 repeat' first
  | (refine c2i 46 8 [2, 45] (.cells 3 1 [[.int .i64 0]]) rfl rfl yb yc rfl yc ?_)
  | (with_reducible refine hfc0 (c7z hp a6 ho) ?_)
  | ((with_reducible refine a8x (j := 2) (hB _ _ hy hF) ?_ ?_ ?_ ?_); (iterate 3 (focus rfl)); focus trivial)
  | (refine dk4 ?_; intro K hK)
  | refine zu ?_
  | (refine stpC ?_; intro T E hT hE)
  | (refine stp2 ?_ ?_ <;> intro h)
  | (refine yg ?_; clear hK K)
  | (refine yh ?_; clear hT hE T E)
  | simp [*, -List.all_flatten, -List.all_eq_true, zo, a0p, zy, A0h, a0p, a0j, zx, a0v]
theorem a_f3 (hp : VOk p) (hy : Gv.Form p Y) (hB : BsP p 2 B) (hi : i < p.fu.length) (hj : j < (p.fu[i]).code.length) (q : p.fu[i].code[j].op = 3 \/ p.fu[i].code[j].op = 19 \/ p.fu[i].code[j].op = 20) : FC Tp Gl 111 [PA p, .agg [.list 2 (sits (a0a p)), .sl [91] 1 0 p.fu.length, .sl [93] 1 0 (a0a p).length], .int .i64 (i : Int), .int .i64 (j : Int)] (HP [] B (PF Y)) (.tup []) (HP [] B (PF (a1e p i j p.fu[i].code[j] Y))) := by
 rcases q with q | q | q
 all_goals
  have hsv := a0h hp
  have nB : ∀ r, B (2 :: r) = none := fun r => (hB _ _ hy hy).fb 2 r yb
  have nB1 : ∀ r, B (1 :: r) = none := fun r => (hB _ _ hy hy).fb 1 r yb
  have hyn := hy.rn
  have hyc := hy.cn
  have hir : i < Y.regs.length := by omega
  obtain ⟨a1, a2, a3, a4, a5, a6⟩ := a1y hy hi (a3l hp hi hj y7)
  obtain ⟨b1, b2, b3, b4, b5, b6⟩ := a1y hy hi (a5l hp hi hj y7)
  have hst : a1e p i j p.fu[i].code[j] Y = addR Y i p.fu[i].code[j].a (rg Y i p.fu[i].code[j].b) := by simp [a1e, q, alO]
  rw [b5] at hst
  rw [a3u hir a2] at hst
  have hF := a1o hp hy hi hj
  rw [hst] at hF
  refine yv Tryz.f111 [] 19 389 [34] 2 ?_
  repeat' first
   | ((with_reducible refine a8x (j := 2) (hB _ _ hy hF) ?_ ?_ ?_ ?_); (iterate 3 (focus rfl)); focus trivial)
   | (refine dk4 ?_; intro K hK)
   | refine zu ?_
   | (refine stpC ?_; intro T E hT hE)
   | (refine stp2 ?_ ?_ <;> intro h)
   | refine cpG (b8m hp a6 b6) ?_
   | (refine yg ?_; clear hK K)
   | (refine yh ?_; clear hT hE T E)
   | simp [*, -List.all_flatten, -List.all_eq_true, zo, a0p, zy, A0h, a0p, a0j, zx, a0v]
theorem g4w (hp : VOk p) (hy : Gv.Form p Y) (hB : BsP p 2 B) (hi : i < p.fu.length) (hj : j < (p.fu[i]).code.length) (q : p.fu[i].code[j].op = 33 \/ p.fu[i].code[j].op = 35) : FC Tp Gl 111 [PA p, .agg [.list 2 (sits (a0a p)), .sl [91] 1 0 p.fu.length, .sl [93] 1 0 (a0a p).length], .int .i64 (i : Int), .int .i64 (j : Int)] (HP [] B (PF Y)) (.tup []) (HP [] B (PF (a1e p i j p.fu[i].code[j] Y))) := by
 rcases q with q | q
 all_goals
  have hsv := a0h hp
  have nB : ∀ r, B (2 :: r) = none := fun r => (hB _ _ hy hy).fb 2 r yb
  have nB1 : ∀ r, B (1 :: r) = none := fun r => (hB _ _ hy hy).fb 1 r yb
  have hyn := hy.rn
  have hyc := hy.cn
  have hir : i < Y.regs.length := by omega
  obtain ⟨a1, a2, a3, a4, a5, a6⟩ := a1y hy hi (a3l hp hi hj y7)
  obtain ⟨b1, b2, b3, b4, b5, b6⟩ := a1y hy hi (a5l hp hi hj y7)
  have hst : a1e p i j p.fu[i].code[j] Y = addR Y i p.fu[i].code[j].a (a6b Y (rg Y i p.fu[i].code[j].b)) := by simp [a1e, q, alO]
  rw [b5] at hst
  rw [a3u hir a2] at hst
  have hF := a1o hp hy hi hj
  rw [hst] at hF
  refine yv Tryz.f111 [] 19 389 [34] 2 ?_
  repeat' first
   | (with_reducible refine hfc1 [1, 2] (.cells 49 3 [[.list 2 (sits (a0a p)), .sl [91] 1 0 p.fu.length, .sl [93] 1 0 (a0a p).length]]) (c0a hp hy b6 b1u) ?_)
   | ((with_reducible refine a8x (j := 2) (hB _ _ hy hF) ?_ ?_ ?_ ?_); (iterate 3 (focus rfl)); focus trivial)
   | (refine dk4 ?_; intro K hK)
   | refine zu ?_
   | (refine stpC ?_; intro T E hT hE)
   | (refine stp2 ?_ ?_ <;> intro h)
   | refine cpG (b8m hp a6 (b6r hy _)) ?_
   | (refine yg ?_; clear hK K)
   | (refine yh ?_; clear hT hE T E)
   | simp [*, -List.all_flatten, -List.all_eq_true, zo, a0p, zy, A0h, a0p, a0j, zx, a0v]
theorem h0f (hp : VOk p) (hy : Gv.Form p Y) (hB : BsP p 2 B) (hi : i < p.fu.length) (hj : j < (p.fu[i]).code.length) (q : p.fu[i].code[j].op = 51) (h1 : p.fu[i].code[j].b = 1) : FC Tp Gl 111 [PA p, .agg [.list 2 (sits (a0a p)), .sl [91] 1 0 p.fu.length, .sl [93] 1 0 (a0a p).length], .int .i64 (i : Int), .int .i64 (j : Int)] (HP [] B (PF Y)) (.tup []) (HP [] B (PF (a1e p i j p.fu[i].code[j] Y))) := by
 have hsv := a0h hp
 have nB : ∀ r, B (2 :: r) = none := fun r => (hB _ _ hy hy).fb 2 r yb
 have nB1 : ∀ r, B (1 :: r) = none := fun r => (hB _ _ hy hy).fb 1 r yb
 have hyn := hy.rn
 have hyc := hy.cn
 have hir : i < Y.regs.length := by omega
 have hI := hp.ins _ (A5p hi) _ (A5p hj)
 have hcc := hI.c
 rw [q] at hcc
 have hcc := c9e (show opR p p.fu[i] p.fu[i].code[j] 99 p.fu[i].code[j].c = true from hcc)
 obtain ⟨a1, a2, a3, a4, a5, a6⟩ := a1y hy hi (a3l hp hi hj y7)
 obtain ⟨c1, c2, c3, c4, c5, c6⟩ := a1y hy hi (show isR p.fu[i] p.fu[i].code[j].c from ⟨by omega, hcc.1⟩)
 have hst : a1e p i j p.fu[i].code[j] Y = a3f Y (rg Y i p.fu[i].code[j].a) (rg Y i p.fu[i].code[j].c) := by simp [a1e, q, alO, h1]
 rw [a5] at hst
 rw [c5] at hst
 have hF := a1o hp hy hi hj
 rw [hst] at hF
 refine yv Tryz.f111 [] 19 389 [34] 2 ?_
 repeat' first
  | (refine a3d rfl (c5e hp hy (BsP.call hB yb hy yn z30) a6.2 c6.2 (A0a (a7q a6) hsv) (A0a (a7q c6) hsv)) ?_)
  | ((with_reducible refine a8x (j := 2) (hB _ _ hy hF) ?_ ?_ ?_ ?_); (iterate 3 (focus rfl)); focus trivial)
  | with_reducible first | refine dk5 ?_; intro K hK | refine a0n (id := 36) 11 a0d yc fun K hK => ?_ | refine a0n (id := 30) 12 a0d yc fun K hK => ?_ | refine a0n (id := 28) 11 a0d yc fun K hK => ?_ | refine zu ?_ | refine stpC ?_; intro T E hT hE | refine stp2 ?_ ?_ <;> intro h | refine yg ?_; clear hK K | refine yh ?_; clear hT hE T E
  | simp [*, -List.all_flatten, -List.all_eq_true, zo, a0p, zy, A0h, a0p, a0j, zx, a0v]
theorem h0e (hp : VOk p) (hy : Gv.Form p Y) (hB : BsP p 2 B) (hi : i < p.fu.length) (hj : j < (p.fu[i]).code.length) (q : p.fu[i].code[j].op = 51) (h1 : ¬ p.fu[i].code[j].b = 1) (h0 : 0 <= p.fu[i].code[j].c) : FC Tp Gl 111 [PA p, .agg [.list 2 (sits (a0a p)), .sl [91] 1 0 p.fu.length, .sl [93] 1 0 (a0a p).length], .int .i64 (i : Int), .int .i64 (j : Int)] (HP [] B (PF Y)) (.tup []) (HP [] B (PF (a1e p i j p.fu[i].code[j] Y))) := by
 have hsv := a0h hp
 have nB : ∀ r, B (2 :: r) = none := fun r => (hB _ _ hy hy).fb 2 r yb
 have nB1 : ∀ r, B (1 :: r) = none := fun r => (hB _ _ hy hy).fb 1 r yb
 have hyn := hy.rn
 have hyc := hy.cn
 have hir : i < Y.regs.length := by omega
 have hI := hp.ins _ (A5p hi) _ (A5p hj)
 have hcc := hI.c
 rw [q] at hcc
 have hcc := c9e (show opR p p.fu[i] p.fu[i].code[j] 99 p.fu[i].code[j].c = true from hcc)
 obtain ⟨a1, a2, a3, a4, a5, a6⟩ := a1y hy hi (a3l hp hi hj y7)
 obtain ⟨c1, c2, c3, c4, c5, c6⟩ := a1y hy hi (show isR p.fu[i] p.fu[i].code[j].c from ⟨h0, hcc.1⟩)
 have hst : a1e p i j p.fu[i].code[j] Y = addR Y i p.fu[i].code[j].c (a6b Y (rg Y i p.fu[i].code[j].a)) := by simp [a1e, q, alO, h0, h1]
 rw [a5] at hst
 rw [a3u hir c2] at hst
 have hF := a1o hp hy hi hj
 rw [hst] at hF
 refine yv Tryz.f111 [] 19 389 [34] 2 ?_
 repeat' first
  | (with_reducible refine hfc1 [1, 2] (.cells 49 3 [[.list 2 (sits (a0a p)), .sl [91] 1 0 p.fu.length, .sl [93] 1 0 (a0a p).length]]) (c0a hp hy a6 b1u) ?_)
  | ((with_reducible refine a8x (j := 2) (hB _ _ hy hF) ?_ ?_ ?_ ?_); (iterate 3 (focus rfl)); focus trivial)
  | (refine dk4 ?_; intro K hK)
  | refine zu ?_
  | (refine stpC ?_; intro T E hT hE)
  | (refine stp2 ?_ ?_ <;> intro h)
  | refine cpG (b8m hp c6 (b6r hy _)) ?_
  | (refine yg ?_; clear hK K)
  | (refine yh ?_; clear hT hE T E)
  | simp [*, -List.all_flatten, -List.all_eq_true, zo, a0p, zy, A0h, a0p, a0j, zx, a0v]
theorem h0g (hp : VOk p) (hy : Gv.Form p Y) (hB : BsP p 2 B) (hi : i < p.fu.length) (hj : j < (p.fu[i]).code.length) (q : p.fu[i].code[j].op = 51) (h1 : ¬ p.fu[i].code[j].b = 1) (h0 : ¬ 0 <= p.fu[i].code[j].c) : FC Tp Gl 111 [PA p, .agg [.list 2 (sits (a0a p)), .sl [91] 1 0 p.fu.length, .sl [93] 1 0 (a0a p).length], .int .i64 (i : Int), .int .i64 (j : Int)] (HP [] B (PF Y)) (.tup []) (HP [] B (PF (a1e p i j p.fu[i].code[j] Y))) := by
 have hsv := a0h hp
 have nB : ∀ r, B (2 :: r) = none := fun r => (hB _ _ hy hy).fb 2 r yb
 have nB1 : ∀ r, B (1 :: r) = none := fun r => (hB _ _ hy hy).fb 1 r yb
 have hyn := hy.rn
 have hyc := hy.cn
 have hir : i < Y.regs.length := by omega
 have h0' : ¬ p.fu[i].code[j].c ≥ 0 := h0
 have hst : a1e p i j p.fu[i].code[j] Y = Y := by simp [a1e, q, alO, h0, h1]
 have hF := a1o hp hy hi hj
 rw [hst] at hF
 refine yv Tryz.f111 [] 19 389 [34] 2 ?_
 repeat' first
  | ((with_reducible refine a8x (j := 2) (hB _ _ hy hF) ?_ ?_ ?_ ?_); (iterate 3 (focus rfl)); focus trivial)
  | (refine dk4 ?_; intro K hK)
  | refine zu ?_
  | (refine stpC ?_; intro T E hT hE)
  | (refine stp2 ?_ ?_ <;> intro h)
  | (refine yg ?_; clear hK K)
  | (refine yh ?_; clear hT hE T E)
  | simp [*, -List.all_flatten, -List.all_eq_true, zo, a0p, zy, A0h, a0p, a0j, zx, a0v]
end Go.Je
namespace Go.Je
open Go Go.FM Go.RowKit Go.Proofs Go.Shelf Go.Maps Go.Sort
theorem b7b {H : Type} (x : Lit × DataW H) : ∀ l : List (Lit × DataW H), (DataW.insert x l).Perm (x :: l)
 | [] => List.Perm.refl _
 | y :: r => by
   unfold DataW.insert
   split
   . exact List.Perm.refl _
   . exact ((b7b x r).cons y).trans (List.Perm.swap x y r)
theorem b3q {H : Type} : ∀ l : List (Lit × DataW H), (l.foldr DataW.insert []).Perm l
 | [] => List.Perm.refl _
 | x :: r => (b7b x _).trans ((b3q r).cons x)
theorem d6j {w : World} {F : Nat -> Prop} {U : FM.Loc -> Prop} {m : FM.Loc -> Nat × Nat} : ∀ {es : List (FV × FV × Nat)} {xs : List MapEntry}, REs w F U m es xs -> ∀ (g : Nat -> Nat) (ks : List Int), es = ks.mapIdx (fun i k => (FV.int .i64 k, FV.agg [], g i)) -> xs.map (·.key) = ks.map encZ /\ xs.map (·.born) = ks.mapIdx fun i _ => g i
 | _, _, .nil, g, ks, h => by
   cases ks with
   | nil => exact ⟨rfl, rfl⟩
   | cons k ks => simp [A3n] at h
 | _, _, .cons e x es xs h1 hs, g, ks, h => by
   cases ks with
   | nil => simp at h
   | cons k ks =>
     rw [A3n, A1q] at h
     obtain ⟨rfl, h⟩ := h
     have ih := d6j hs (fun i => g (i + 1)) ks h
     have hk : x.key = .int .i64 k := by have := h1.key; generalize x.key = y at this; cases this; rfl
     have hb : x.born = g 0 := h1.born
     rw [A3n, A1m, A1m, A1m, ih.1, ih.2, hk, hb]
     exact ⟨rfl, rfl⟩
theorem c3u (ks : List Int) : (ks.mapIdx fun i _ => i) = List.range ks.length := by
 refine A0e yd fun i h1 h2 => by simp
def noR : Value -> Option (DataW Unit × List MemPlace) := fun _ => some (.nil, [])
theorem f4h {w : World} {F : Nat -> Prop} {m : FM.Loc -> Nat × Nat} {H : Heap} {k : FM.Loc} {ks : List Int} (hO : OR w F H m k (mapO ks)) (hnd : ks.Nodup) (hb : ∀ x ∈ ks, 0 <= x /\ x < 1000000000) (hl : ks.length <= 1000000000) :
 ∃ D0, w.ownsMap Tp 3 noR (m k).1 ks.length D0 /\ (intKeys D0).Perm ks /\ Maps.size D0 = ks.length := by
 obtain ⟨_, ar, h1, h2⟩ := hO
 obtain ⟨e1, e2⟩ := d6j h2 (fun i => i) ks rfl
 rw [c3u] at e2
 have hsz : ar.toList.length = ks.length := by have := congrArg List.length e1; simpa using this
 have hrd : ∀ x ∈ ar.toList, ∃ a, a ∈ ks /\ x.key = .int .i64 a /\ Go.WideElems.rd Tp 3 noR x = some (.int .i64 a, .nil) := fun x hx => by
  have : x.key ∈ ks.map encZ := by rw [<- e1]; exact List.mem_map_of_mem hx
  obtain ⟨a, ha, hk⟩ := A1t.1 this
  have hw : (Lit.int .i64 a).wf = true := by
   have := hb a ha
   have h1 : IntKind.i64.min = -9223372036854775808 := by decide
   have h2 : IntKind.i64.max = 9223372036854775807 := by decide
   simp [Lit.wf, h1, h2]
   omega
  have hk' : x.key = .int .i64 a := hk.symm
  refine ⟨a, ha, hk', ?_⟩
  have : keyOf Tp 3 x.key = some (.int .i64 a) := by rw [hk']; exact keyOf_int_mk g2i.t26 hw
  simp [Go.WideElems.rd, this, noR]
 refine ⟨_, ⟨ar, _, h1, ⟨by rw [<- A3l, hsz]; exact A0a hl yb, ⟨fun x hx => ?_, ?_, ?_⟩, fun x hx => ?_⟩, by rw [<- A3l, hsz]; exact A5s _, rfl⟩, ?_, ?_⟩
 . have : x.born ∈ List.range ks.length := by rw [<- e2]; exact List.mem_map_of_mem hx
   exact A2k.1 this
 . rw [e2]; exact List.nodup_range
 . rw [e1]; exact List.pairwise_map.2 (hnd.imp fun h e => h (encZ_inj e))
 . obtain ⟨a, _, _, h⟩ := hrd x hx; exact ⟨_, h⟩
 . show ((List.foldr DataW.insert [] _).map fun p => intOf p.1).Perm ks
   refine ((b3q _).map _).trans ?_
   rw [List.map_map]
   have : ar.toList.map ((fun p : Lit × DataW Unit => intOf p.1) ∘ Go.WideElems.rg Tp 3 noR) = ks := by
    have h3 : (ar.toList.map ((fun p : Lit × DataW Unit => intOf p.1) ∘ Go.WideElems.rg Tp 3 noR)).map encZ = ar.toList.map (·.key) := by
     rw [List.map_map]
     refine A1f fun x hx => ?_
     obtain ⟨a, _, hk, h⟩ := hrd x hx
     simp [Go.WideElems.rg, h, intOf, hk]
    rw [e1] at h3
    exact (List.map_inj_right (fun _ _ => encZ_inj)).1 h3
   rw [this]
 . show (List.foldr DataW.insert [] _).length = ks.length
   rw [(b3q _).length_eq, A1l, hsz]
theorem d1u {P : Program} {G : List (Nat × List Value)} {f : FuncId} {A : List FV} {H : Heap} {S : List Int -> Prop} (h : ∀ (w : World) (F : Nat -> Prop) (m : FM.Loc -> Nat × Nat) (vs : List Value), (∀ b, F b -> b < w.heap.size) -> a5g G F w -> RFs w F (fun l => H l ≠ none) m A vs -> HeapR w F m H ->
 Calls P f vs.toArray w fun e w' => ∃ (v : Value) (ss : List Int), e = .returned v /\ S ss /\ w'.ownsRow w.heap.size 3 1 v ss.length (ss.map encZ) /\ (v = .slice none 0 0 ↔ ss = []) /\ Below w.heap.size w w') :
 FCr P G f A H (fun r H' => H' = H /\ ∃ ss, S ss /\ r = .list 1 (ints ss)) := by
 intro w F m vs hF hG hv hH
 refine (h w F m vs hF hG hv hH).mono ?_
 rintro e w' ⟨v, ss, rfl, hS, hrow, hnil, hb⟩
 rcases hrow.2 with ⟨rfl, hz⟩ | ⟨g, cap, cur, rfl, hg, hgc, hn, hmx, hcs, htk⟩
 . have hss : ss = [] := A5u hz
   subst hss
   exact ⟨.list 1 (ints []), H, _, F, m, ⟨rfl, [], hS, rfl⟩, rfl, fun _ h => h, fun y hy => ⟨.inl hy, A2b (hF y hy) hb.size⟩, fun l hl => ⟨rfl, hl⟩,
    .list 1 [] none 0 [] yd yd yd .nil, hH.below hF hb, fun l hl => .inl ⟨l, hl, rfl⟩, hb.size, fun y hy _ => hb.block y hy, hb.os, hb.tape, hb.output⟩
 . have hgl : g < w'.heap.size := (A5d.1 hgc).1
   have hH2 := hH.below hF hb
   refine ⟨.list 1 (ints ss), H, _, fun b => F b \/ b = g, m, ⟨rfl, ss, hS, rfl⟩, rfl, fun _ h => .inl h, fun y hy => ?_, fun l hl => ⟨rfl, hl⟩, ?_, ⟨fun l o ho => (hH2.obj l o ho).keep (fun _ h => .inl h) (fun _ _ => rfl) (fun _ h => h) (fun _ _ => rfl) rfl (fun _ _ => rfl), hH2.inj, fun l hl => ⟨(hH2.old l hl).1, ?_⟩⟩, fun l hl => .inl ⟨l, hl, rfl⟩, hb.size, fun y hy _ => hb.block y hy, hb.os, hb.tape, hb.output⟩
   . rcases hy with hy | rfl
     . exact ⟨.inl hy, A2b (hF y hy) hb.size⟩
     . exact ⟨.inr hg, hgl⟩
   . have hl : (ints ss).length = ss.length := by simp [ints]
     have key : ∀ l : List Int, RFs w' (fun b => F b \/ b = g) (fun l => H l ≠ none) m (ints l).flatten (l.map encZ) := by
      intro l
      induction l with
      | nil => exact .nil
      | cons a l ih => exact .cons _ _ _ _ (.int _ _) ih
     have hcell : ∀ (j : Nat) (v : Value), (ss.map encZ)[j]? = some v -> w'.cell? ((⟨g, 0, none⟩ : Addr).add j) = some v := fun j v hv => by
      rw [add0, A3u, a5a hgc]
      have hj : j < ss.length := by have := (A0q.1 hv).1; simpa using this
      have h2 := congrArg (·[j]?) htk
      simp only [Nat.mul_one] at h2
      rw [A0p, if_pos hj, hv] at h2
      simpa using h2
     have := RF.list (w := w') (F := fun b => F b \/ b = g) (U := fun l => H l ≠ none) (m := m) 1 (ints ss) (some ⟨g, 0, none⟩) cap (ss.map encZ) (fun x hx => by
      obtain ⟨a, _, rfl⟩ := A1t.1 hx; rfl) (by rw [hl]; exact hn) (fun _ => ⟨_, rfl, .inr rfl, hcell⟩) (key ss)
     rwa [hl] at this
   . rintro (hf | e)
     . exact (hH2.old l hl).2 hf
     . have := (hH.old l (by
        obtain ⟨o, a1, a2, a3⟩ := hl; exact ⟨o, a1, a2, a3⟩)).1
       omega
section
variable {H : Heap} {l k : FM.Loc} {T : TypeId} {ks : List Int}
theorem c9w {w : World} {F : Nat -> Prop} {m : FM.Loc -> Nat × Nat} (hH : HeapR w F m H) (hl : H l = some (.cells T 1 [[.mp k]])) (hk : H k = some (mapO ks)) (hnd : ks.Nodup) (hb : ∀ x ∈ ks, 0 <= x /\ x < 1000000000) (hn : ks.length <= 1000000000) (d : Nat) (hd : 1 <= d) :
 SeqGives Fence.wide d Tp 151 #[.pointer (some ⟨(m l).1, 0, none⟩)] encZ (fun ss => ss.Perm ks) ks.length w := by
 obtain ⟨_, h0, c, ws, q1, q2, q3, q4, q5⟩ := d5x (i := 0) (x := [.mp k]) hH hl rfl
 obtain ⟨u, rfl, r⟩ := q4.single
 cases r
 have hcell : w.cell? ⟨(m l).1, 0, none⟩ = some (.map (some (m k).1)) := by
  rw [a5a q1]
  have := q5 0 ya
  simpa using this.symm
 obtain ⟨D0, ho, hp, hs⟩ := f4h (hH.obj _ _ hk) hnd hb hn
 have h := AnyZI.keys_gives (ρ := kR6) g2i Fence.wide d trivial rfl hd (m l).1 (m k).1 _ D0 w (hH.old l ⟨_, hl, by simp, h0⟩).1 hcell ho
 rw [hs] at h
 exact fun l1 J W a1 a2 a3 a4 => (h l1 J W a1 a2 a3 a4).mono fun e w' ⟨h1, xs, h2, h3⟩ => ⟨h1, xs, h2.trans hp, h3⟩
theorem d5d (hl : H l = some (.cells T 1 [[.mp k]])) (hk : H k = some (mapO ks)) (hnd : ks.Nodup) (hb : ∀ x ∈ ks, 0 <= x /\ x < 1000000000) (hn : ks.length <= 1000000000) :
 FCr Tp Gl 107 [.clo 151 [] [.ptr l 1 0 0]] H (fun r H' => H' = H /\ ∃ ss, ss.Perm ks /\ r = .list 1 (ints ss)) := by
 refine d1u fun w F m vs hF hG hv hH => ?_
 obtain ⟨v, rfl, g⟩ := hv.single
 cases g with
 | clo _ _ _ us vs g1 g2 =>
 cases g1
 obtain ⟨v, rfl, g⟩ := g2.single
 cases g
 refine (callsIn_wide (n := 6)).1 ?_
 exact AnyZI.collect_in (ρ := kR6) kL8 Fence.wide 6 trivial trivial rfl ya 151 _ trivial (enters_of (c := _) (show Tp.funcs[151]? = some Tryz.f151 by kernel_rfl) yc rfl) (fun ss => ss.Perm ks) ks.length (A0a hn yb) ya w (c9w hH hl hk hnd hb hn _ ya)
theorem d2j (n : Nat) : AnyZI.SortsIn Tp kR6 Fence.wide n :=
 ⟨fun blk off cap ss W hH hblk hsz => callsIn_wide.2 (Any.slices_Sort_int sL blk off cap ss W hH hblk hsz),
  fun p cap W => callsIn_wide.2 (Any.slices_Sort_int_none sL p cap W)⟩
theorem c8a (hl : H l = some (.cells T 1 [[.mp k]])) (hk : H k = some (mapO ks)) (hnd : ks.Nodup) (hb : ∀ x ∈ ks, 0 <= x /\ x < 1000000000) (hn : ks.length <= 1000000000) :
 FC Tp Gl 109 [.clo 151 [] [.ptr l 1 0 0]] H (.list 1 (ints (Gv.srt ks))) H := by
 refine FCr.fc (FCr.mono (d1u (S := fun ss => ss = Gv.srt ks) fun w F m vs hF hG hv hH => ?_) fun r H' ⟨e, ss, e2, e3⟩ => ⟨by rw [e3, e2], e⟩)
 obtain ⟨v, rfl, g⟩ := hv.single
 cases g with
 | clo _ _ _ us vs g1 g2 =>
 cases g1
 obtain ⟨v, rfl, g⟩ := g2.single
 cases g
 refine (callsIn_wide (n := 6)).1 ?_
 refine (AnyZI.sorted_in (ρ := kR6) kL6 Fence.wide 6 trivial trivial trivial trivial rfl ya (d2j _) (enters_of (c := _) (show Tp.funcs[132]? = some Tryz.f132 by kernel_rfl) yc rfl) 151 _ trivial (enters_of (c := _) (show Tp.funcs[151]? = some Tryz.f151 by kernel_rfl) yc rfl) (fun ss => ss.Perm ks) ks.length (A0a hn yb) ya w (c9w hH hl hk hnd hb hn _ ya)).mono ?_
 rintro e w' ⟨v, ss, rfl, hp, hrow, hnil, hbl⟩
 have he : ss.mergeSort (fun x y => decide (x <= y)) = Gv.srt ks := mergeSort_of_perm_i hp
 have hlen : ss.length = (Gv.srt ks).length := by rw [hp.length_eq, Gv.a5y]
 refine ⟨v, Gv.srt ks, rfl, rfl, by rw [he, hlen] at hrow; exact hrow, ?_, hbl⟩
 rw [hnil]
 constructor
 . rintro rfl; exact A5u hlen.symm
 . intro e; exact A5u (by rw [hlen, e]; rfl)
end
end Go.Je
