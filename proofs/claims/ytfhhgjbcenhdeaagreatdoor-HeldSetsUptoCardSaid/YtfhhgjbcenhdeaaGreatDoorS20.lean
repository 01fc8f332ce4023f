/- Part. -/
import Derived.Test.YtfhhgjbcenhdeaaGreatDoorS17
set_option linter.all false
set_option maxRecDepth 100000
set_option maxHeartbeats 0
namespace Go.Je
open Go Go.FM Go.Gv Go.Proofs
variable {Y : Pts} {i : Nat} {p : Pg}
theorem g4x (hp : VOk p) (hy : Gv.Form p Y) {B : Heap} (hB : BsP p 2 B) {j : Nat} (hi : i < p.fu.length) (hj : j < (p.fu[i]).code.length) (q : p.fu[i].code[j].op = 28 \/ p.fu[i].code[j].op = 31) : FC Tp Gl 111 [PA p, .agg [.list 2 (sits (a0a p)), .sl [91] 1 0 p.fu.length, .sl [93] 1 0 (a0a p).length], .int .i64 (i : Int), .int .i64 (j : Int)] (HP [] B (PF Y)) (.tup []) (HP [] B (PF (a1e p i j p.fu[i].code[j] Y))) := by
 rcases q with q | q
 all_goals
  have hsv := a0h hp
  have nB : ∀ r, B (2 :: r) = none := fun r => (hB _ _ hy hy).fb 2 r yb
  have nB1 : ∀ r, B (1 :: r) = none := fun r => (hB _ _ hy hy).fb 1 r yb
  have hyn := hy.rn
  have hyc := hy.cn
  have hir : i < Y.regs.length := by omega
  have hI := hp.ins _ (A5p hi) _ (A5p hj)
  obtain ⟨cb0, cb1, cc0, cc1⟩ := a5e hp (A5p hi) (n := p.fu[i].code[j]) z3n
  have hbl : p.fu[i].code[j].b.toNat < p.fu.length := by omega
  have hfn := c1q hbl
  rw [hfn] at cc1
  have hpr := hp.regs (A5p hbl)
  have hp0 := hpr.p0
  have hp1 := hpr.p1
  have hp64 := hpr.r64
  have hpcl := hpr.c1000
  have hr64 := (hp.regs (A5p hi)).r64
  have hfy := hy.fn i hir hi
  obtain ⟨pn, hpn⟩ := Int.eq_ofNat_of_zero_le hp0
  have hPF : ∀ k, k <= pn -> Gv.Form p (a3m Y i p.fu[i].code[j] k) := fun k hk => b6o hy cb0 hbl hpr k ya
  have hst : a1e p i j p.fu[i].code[j] Y = a3m Y i p.fu[i].code[j] pn := by simp [a1e, q, alO, hfn, hpn]
  have hF := a1o hp hy hi hj
  rw [hst] at hF
  refine yv Tryz.f111 [] 19 389 [34] 2 ?_
  repeat' first
   | (refine yi ?_; refine a0e (σ := {k : Nat // k <= pn}) (fun y => [(13, .int .i64 (y.1 : Int))]) [] (fun y => []) [] (fun y => []) (fun y => PF (a3m Y i p.fu[i].code[j] y.1)) (fun y => pn - y.1) ⟨0, by simp⟩ z3o ?_; rintro ⟨k, hk⟩; simp only [lpS, LPXB]; (try dsimp only at hk); have hZ := hPF k hk; have hZr := hZ.rn; have hZi : i < (a3m Y i p.fu[i].code[j] k).regs.length := ya; have hZb : p.fu[i].code[j].b.toNat < (a3m Y i p.fu[i].code[j] k).regs.length := ya; rcases a0c hk with hlt | ⟨hlt, he⟩; rotate_left; subst k; rotate_left; have wk := wli (i := k) (m := 200) ya yb; obtain ⟨z1, z2, z3, z4, z5, z6⟩ := a1y hZ hbl (show isR p.fu[p.fu[i].code[j].b.toNat] (k : Int) from ⟨by omega, by omega⟩); simp only [A5r] at z2 z5 z6; have hz2x : (k : Int) < (((a3m Y i p.fu[i].code[j] k).regs[p.fu[i].code[j].b.toNat]'hZb).length : Int) := ya; have hwa : IntKind.wrap .i64 (p.fu[i].code[j].c + (k : Int)) = p.fu[i].code[j].c + (k : Int) := zh; obtain ⟨c1, c2, c3, c4, c5, c6⟩ := a1y hZ hi (show isR p.fu[i] (p.fu[i].code[j].c + (k : Int)) from ⟨by omega, by omega⟩); have hcx : p.fu[i].code[j].c + (k : Int) < p.fu[i].regs := ya; have hw := b3g (Y := Y) (f := i) (n := p.fu[i].code[j]) k; rw [c5, a3u hZb (by simpa using z2)] at hw; simp only [A5r] at hw; rotate_left; rotate_left)
   | (refine ye ?_; refine a0b ⟨k + 1, by omega⟩ z3p yf)
   | (refine yi ?_; refine a0e (σ := Unit) (fun y => []) [] (fun y => []) [] (fun y => []) (fun y => PF (a3m Y i p.fu[i].code[j] pn)) (fun y => 0) () z4c ?_; rintro ⟨⟩; simp only [lpS, LPXB])
   | ((with_reducible refine a8x (j := 2) (hB _ _ hy hF) ?_ ?_ ?_ ?_); (iterate 3 (focus rfl)); focus trivial)
   | (refine dk4 ?_; intro K hK)
   | refine zu ?_
   | (refine stpC ?_; intro T E hT hE)
   | (refine stp2 ?_ ?_ <;> intro h)
   | refine cpG (b8m hp z6 c6) ?_
   | (refine yg ?_; clear hK K)
   | (refine yh ?_; clear hT hE T E)
   | simp [*, -List.all_flatten, -List.all_eq_true, zo, a0p, zy, A0h, a0p, a0j, zx, a0v, FnD.row, a2i, a9r, Ins.row, A5r, b4h]
theorem h0k (hp : VOk p) (hy : Gv.Form p Y) {B : Heap} (hB : BsP p 2 B) {j : Nat} (hi : i < p.fu.length) (hj : j < (p.fu[i]).code.length) (q : p.fu[i].code[j].op = 26) (h0 : ¬ 0 <= p.fu[i].code[j].a) : FC Tp Gl 111 [PA p, .agg [.list 2 (sits (a0a p)), .sl [91] 1 0 p.fu.length, .sl [93] 1 0 (a0a p).length], .int .i64 (i : Int), .int .i64 (j : Int)] (HP [] B (PF Y)) (.tup []) (HP [] B (PF (a1e p i j p.fu[i].code[j] Y))) := by
 have hsv := a0h hp
 have nB : ∀ r, B (2 :: r) = none := fun r => (hB _ _ hy hy).fb 2 r yb
 have nB1 : ∀ r, B (1 :: r) = none := fun r => (hB _ _ hy hy).fb 1 r yb
 have hyn := hy.rn
 have hyc := hy.cn
 have hir : i < Y.regs.length := by omega
 have hI := hp.ins _ (A5p hi) _ (A5p hj)
 obtain ⟨cb0, cb1, cc0, cc1⟩ := a5e hp (A5p hi) (n := p.fu[i].code[j]) z3n
 have hbl : p.fu[i].code[j].b.toNat < p.fu.length := by omega
 have hfn := c1q hbl
 rw [hfn] at cc1
 have hpr := hp.regs (A5p hbl)
 have hp0 := hpr.p0
 have hp1 := hpr.p1
 have hp64 := hpr.r64
 have hpcl := hpr.c1000
 have hr64 := (hp.regs (A5p hi)).r64
 have hfy := hy.fn i hir hi
 obtain ⟨pn, hpn⟩ := Int.eq_ofNat_of_zero_le hp0
 have hPF : ∀ k, k <= pn -> Gv.Form p (a3m Y i p.fu[i].code[j] k) := fun k hk => b6o hy cb0 hbl hpr k ya
 have h0' : ¬ p.fu[i].code[j].a ≥ 0 := h0
 have hst : a1e p i j p.fu[i].code[j] Y = a3m Y i p.fu[i].code[j] pn := by simp [a1e, q, alO, hfn, hpn, h0]
 have hF := a1o hp hy hi hj
 rw [hst] at hF
 refine yv Tryz.f111 [] 19 389 [34] 2 ?_
 repeat' first
  | (refine yi ?_; refine a0e (σ := {k : Nat // k <= pn}) (fun y => [(13, .int .i64 (y.1 : Int))]) [] (fun y => []) [] (fun y => []) (fun y => PF (a3m Y i p.fu[i].code[j] y.1)) (fun y => pn - y.1) ⟨0, by simp⟩ z3o ?_; rintro ⟨k, hk⟩; simp only [lpS, LPXB]; (try dsimp only at hk); have hZ := hPF k hk; have hZr := hZ.rn; have hZi : i < (a3m Y i p.fu[i].code[j] k).regs.length := ya; have hZb : p.fu[i].code[j].b.toNat < (a3m Y i p.fu[i].code[j] k).regs.length := ya; rcases a0c hk with hlt | ⟨hlt, he⟩; rotate_left; subst k; rotate_left; have wk := wli (i := k) (m := 200) ya yb; obtain ⟨z1, z2, z3, z4, z5, z6⟩ := a1y hZ hbl (show isR p.fu[p.fu[i].code[j].b.toNat] (k : Int) from ⟨by omega, by omega⟩); simp only [A5r] at z2 z5 z6; have hz2x : (k : Int) < (((a3m Y i p.fu[i].code[j] k).regs[p.fu[i].code[j].b.toNat]'hZb).length : Int) := ya; have hwa : IntKind.wrap .i64 (p.fu[i].code[j].c + (k : Int)) = p.fu[i].code[j].c + (k : Int) := zh; obtain ⟨c1, c2, c3, c4, c5, c6⟩ := a1y hZ hi (show isR p.fu[i] (p.fu[i].code[j].c + (k : Int)) from ⟨by omega, by omega⟩); have hcx : p.fu[i].code[j].c + (k : Int) < p.fu[i].regs := ya; have hw := b3g (Y := Y) (f := i) (n := p.fu[i].code[j]) k; rw [c5, a3u hZb (by simpa using z2)] at hw; simp only [A5r] at hw; rotate_left; rotate_left)
  | (refine ye ?_; refine a0b ⟨k + 1, by omega⟩ z3p yf)
  | (refine yi ?_; refine a0e (σ := Unit) (fun y => []) [] (fun y => []) [] (fun y => []) (fun y => PF (a3m Y i p.fu[i].code[j] pn)) (fun y => 0) () z4c ?_; rintro ⟨⟩; simp only [lpS, LPXB])
  | ((with_reducible refine a8x (j := 2) (hB _ _ hy hF) ?_ ?_ ?_ ?_); (iterate 3 (focus rfl)); focus trivial)
  | (refine dk4 ?_; intro K hK)
  | refine zu ?_
  | (refine stpC ?_; intro T E hT hE)
  | (refine stp2 ?_ ?_ <;> intro h)
  | refine cpG (b8m hp z6 c6) ?_
  | (refine yg ?_; clear hK K)
  | (refine yh ?_; clear hT hE T E)
  | simp [*, -List.all_flatten, -List.all_eq_true, zo, a0p, zy, A0h, a0p, a0j, zx, a0v, FnD.row, a2i, a9r, Ins.row, A5r, b4h]
theorem bsPF (j : Nat) (hj : j <= 20) (y : Pts) : Bs (fun _ => False) j noH (PF y) :=
 ⟨fun _ _ _ => rfl, fun k r hk => a9a y k r ya, e1b y fun _ _ h => zr, fun _ h => h.elim⟩
theorem bsP0 (p : Pg) (j : Nat) (hj : j <= 20) : BsP p j noH := fun y y' hy hy' =>
 ⟨fun _ _ _ => rfl, fun k r hk => a9a y' k r ya, e1b y' fun _ _ h => zr, fun l hl hn => by
  have hl : HP [] noH (PF y) l ≠ none := hl
  rw [a0s] at hn
  refine hl (a2c.2 ⟨?_, rfl⟩)
  cases e : PF y l with
  | none => rfl
  | some o => exact absurd hn.1 (e2e hy hy' l z1e)⟩
def g4u (L : LF) : Bool := L.all fun p => match p.2 with | .dead => false | _ => true
theorem BsC.of {L : LF} (hl : hdN 3 (L.map Prod.fst) = true) (ho : ninL (inH (HP L noH noH)) L) (hd : g4u L = true) : BsC (updL L noH) := by
 have hout : ∀ k r, k ≠ 3 -> updL L noH (k :: r) = none := fun k r hk => by
  rw [a3i fun p hp e => ?_]
  . rfl
  . obtain ⟨q, hq⟩ := a4z hl p.1 (A1t.2 ⟨p, hp, rfl⟩)
    rw [e] at hq
    simp only [A1q] at hq
    exact hk hq.1
 refine ⟨fun k r hk => hout k r ya, fun r => hout 91 r yb, fun r => hout 92 r yb, fun r => hout 93 r yb, fun l o h => ?_, fun l o h => ?_⟩
 . rcases a4k h with h | ⟨_, h⟩
   . exact a1t (fun q hq => hq) (a8e ho _ h)
   . cases h
 . rcases a4k h with h | ⟨_, h⟩
   . have := List.all_eq_true.1 hd _ h
     rintro rfl
     simp at this
   . cases h
theorem e0x (hp : VOk p) (hy : Gv.Form p Y) (hi : i < p.fu.length) (k : Nat) (hk : k <= p.fu[i].code.length) : Gv.Form p (b1r p i p.fu[i].code k Y) := ((d9l hp hi k hk).1 Y hy).1
theorem b9a (hp : VOk p) (hy : Gv.Form p Y) (k : Nat) (hk : k <= p.fu.length) : Gv.Form p (a9l p Y k) := ((c1k hp k hk).1 Y hy).1
theorem f6s {code : List Ins} {k : Nat} (h : k < code.length) (Y : Pts) : b1r p i code (k + 1) Y = a1e p i k code[k] (b1r p i code k Y) := by simp only [b1r, A5n h]
theorem f6r (p : Pg) (i : Nat) (code : List Ins) (Y : Pts) : b1r p i code 0 Y = Y := id (by simp only [b1r])
theorem f4f {k : Nat} (h : k < p.fu.length) (Y : Pts) : a9l p Y (k + 1) = b1r p k p.fu[k].code p.fu[k].code.length (a9l p Y k) := by simp only [a9l, A5n h]
theorem f4e (p : Pg) (Y : Pts) : a9l p Y 0 = Y := id (by simp only [a9l])
end Go.Je
