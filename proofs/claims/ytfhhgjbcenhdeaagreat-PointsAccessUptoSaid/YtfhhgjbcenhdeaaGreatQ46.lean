/- Parts of the proof. -/
import Derived.Test.YtfhhgjbcenhdeaaGreatQ44
set_option linter.unusedSimpArgs false
set_option linter.unusedVariables false
namespace Go.Ge
open Go Go.FM Go.Gv Go.Proofs
set_option maxRecDepth 100000
set_option maxHeartbeats 40000000
theorem arN1 {p : Pg} (hb : PgB p) {x : Pts} (hx : PtB 2000000 x) {a b : Int} (h : a < 0) : PC Tryz.prog Gl 19 [.agg [.list 4 (fns p.funcs), .list 2 (gbs p.globals), .list 1 (lays p.layouts), .int .i64 p.main], .agg [.list 2 (sits x.sites), .list 1 (lls x.regs), .list 1 (lays x.cells)], .agg [.int .i64 a, .int .i64 b]] (.list 1 []) := by
 refine a3d (res := [.tmp 6]) 12 126 [66] (fun d ix => 0 :: d :: ix) (fn := Tryz.f19) (by kernel_rfl) (by rfl) (by rfl) (by rfl) (by simp) (by decide) ?_
 repeat' first
  | with_reducible first | refine a0u (id := 1) 35 a0m (by kernel_rfl) fun K hK => ?_ | refine stp ?_
  | (with_reducible refine stpK ?_; intro K hK)
  | (with_reducible refine stpC ?_; intro T E hT hE)
  | (with_reducible refine stp2 ?_ ?_ <;> intro h)
  | with_reducible first | refine a0p rfl ?_ | refine a1h (a4l hb hx) (by simp [nls, nl, *, NLXB]) ?_ | refine hpc (a4l hb hx) (by simp [nls, nl, *, NLXB]) ?_ | refine a1r rfl (Nat.le_of_ble_eq_true rfl) a0r ?_ | refine a1r rfl (Nat.le_of_ble_eq_true rfl) (a0q (by simp [HPXB, ext, upd, *])) ?_ | refine a1s (by decide) (by kernel_rfl) ?_ | refine a0x (by decide) ?_
  | (with_reducible refine Kont.go hK ?_; clear hK K)
  | ((with_reducible first | refine KT.go hT ?_ | refine KT.go hE ?_); clear hT hE T E)
  | simp [*, -List.all_flatten, -List.all_eq_true, DEFB, LENB, asR, a0w, a2t, List.take_length]
theorem arN2 {p : Pg} (hb : PgB p) {x : Pts} (hx : PtB 2000000 x) {f : Nat} {b : Int} (h : p.funcs.length <= f) : PC Tryz.prog Gl 19 [.agg [.list 4 (fns p.funcs), .list 2 (gbs p.globals), .list 1 (lays p.layouts), .int .i64 p.main], .agg [.list 2 (sits x.sites), .list 1 (lls x.regs), .list 1 (lays x.cells)], .agg [.int .i64 (f : Int), .int .i64 b]] (.list 1 []) := by
 have i1 : ¬ (f : Int) < 0 := by omega
 refine a3d (res := [.tmp 6]) 12 126 [66] (fun d ix => 0 :: d :: ix) (fn := Tryz.f19) (by kernel_rfl) (by rfl) (by rfl) (by rfl) (by simp) (by decide) ?_
 repeat' first
  | with_reducible first | refine a0u (id := 1) 35 a0m (by kernel_rfl) fun K hK => ?_ | refine stp ?_
  | (with_reducible refine stpK ?_; intro K hK)
  | (with_reducible refine stpC ?_; intro T E hT hE)
  | (with_reducible refine stp2 ?_ ?_ <;> intro h)
  | with_reducible first | refine a0p rfl ?_ | refine a1h (a4l hb hx) (by simp [nls, nl, *, NLXB]) ?_ | refine hpc (a4l hb hx) (by simp [nls, nl, *, NLXB]) ?_ | refine a1r rfl (Nat.le_of_ble_eq_true rfl) a0r ?_ | refine a1r rfl (Nat.le_of_ble_eq_true rfl) (a0q (by simp [HPXB, ext, upd, *])) ?_ | refine a1s (by decide) (by kernel_rfl) ?_ | refine a0x (by decide) ?_
  | (with_reducible refine Kont.go hK ?_; clear hK K)
  | ((with_reducible first | refine KT.go hT ?_ | refine KT.go hE ?_); clear hT hE T E)
  | simp [*, -List.all_flatten, -List.all_eq_true, DEFB, LENB, asR, a0w, a2t, List.take_length]
theorem arN3 {p : Pg} (hb : PgB p) {x : Pts} (hx : PtB 2000000 x) {f : Nat} (hf : f < p.funcs.length) {b : Int} (h : b < 0) : PC Tryz.prog Gl 19 [.agg [.list 4 (fns p.funcs), .list 2 (gbs p.globals), .list 1 (lays p.layouts), .int .i64 p.main], .agg [.list 2 (sits x.sites), .list 1 (lls x.regs), .list 1 (lays x.cells)], .agg [.int .i64 (f : Int), .int .i64 b]] (.list 1 []) := by
 have i1 : ¬ (f : Int) < 0 := by omega
 have i3 : ¬ p.funcs.length <= f := by omega
 refine a3d (res := [.tmp 6]) 12 126 [66] (fun d ix => 0 :: d :: ix) (fn := Tryz.f19) (by kernel_rfl) (by rfl) (by rfl) (by rfl) (by simp) (by decide) ?_
 repeat' first
  | with_reducible first | refine a0u (id := 1) 35 a0m (by kernel_rfl) fun K hK => ?_ | refine stp ?_
  | (with_reducible refine stpK ?_; intro K hK)
  | (with_reducible refine stpC ?_; intro T E hT hE)
  | (with_reducible refine stp2 ?_ ?_ <;> intro h)
  | with_reducible first | refine a0p rfl ?_ | refine a1h (a4l hb hx) (by simp [nls, nl, *, NLXB]) ?_ | refine hpc (a4l hb hx) (by simp [nls, nl, *, NLXB]) ?_ | refine a1r rfl (Nat.le_of_ble_eq_true rfl) a0r ?_ | refine a1r rfl (Nat.le_of_ble_eq_true rfl) (a0q (by simp [HPXB, ext, upd, *])) ?_ | refine a1s (by decide) (by kernel_rfl) ?_ | refine a0x (by decide) ?_
  | (with_reducible refine Kont.go hK ?_; clear hK K)
  | ((with_reducible first | refine KT.go hT ?_ | refine KT.go hE ?_); clear hT hE T E)
  | simp [*, -List.all_flatten, -List.all_eq_true, DEFB, LENB, asR, a0w, a2t, List.take_length]
theorem arN4 {p : Pg} (hb : PgB p) {x : Pts} (hx : PtB 2000000 x) {f pc : Nat} (hf : f < p.funcs.length) (h : p.funcs[f].code.length <= pc) : PC Tryz.prog Gl 19 [.agg [.list 4 (fns p.funcs), .list 2 (gbs p.globals), .list 1 (lays p.layouts), .int .i64 p.main], .agg [.list 2 (sits x.sites), .list 1 (lls x.regs), .list 1 (lays x.cells)], .agg [.int .i64 (f : Int), .int .i64 (pc : Int)]] (.list 1 []) := by
 have i1 : ¬ (f : Int) < 0 := by omega
 have i2 : ¬ (pc : Int) < 0 := by omega
 have i3 : ¬ p.funcs.length <= f := by omega
 refine a3d (res := [.tmp 6]) 12 126 [66] (fun d ix => 0 :: d :: ix) (fn := Tryz.f19) (by kernel_rfl) (by rfl) (by rfl) (by rfl) (by simp) (by decide) ?_
 repeat' first
  | with_reducible first | refine a0u (id := 1) 35 a0m (by kernel_rfl) fun K hK => ?_ | refine stp ?_
  | (with_reducible refine stpK ?_; intro K hK)
  | (with_reducible refine stpC ?_; intro T E hT hE)
  | (with_reducible refine stp2 ?_ ?_ <;> intro h)
  | with_reducible first | refine a0p rfl ?_ | refine a1h (a4l hb hx) (by simp [nls, nl, *, NLXB]) ?_ | refine hpc (a4l hb hx) (by simp [nls, nl, *, NLXB]) ?_ | refine a1r rfl (Nat.le_of_ble_eq_true rfl) a0r ?_ | refine a1r rfl (Nat.le_of_ble_eq_true rfl) (a0q (by simp [HPXB, ext, upd, *])) ?_ | refine a1s (by decide) (by kernel_rfl) ?_ | refine a0x (by decide) ?_
  | (with_reducible refine Kont.go hK ?_; clear hK K)
  | ((with_reducible first | refine KT.go hT ?_ | refine KT.go hE ?_); clear hT hE T E)
  | simp [*, -List.all_flatten, -List.all_eq_true, DEFB, LENB, asR, a0w, a2t, List.take_length]
theorem arN5 {p : Pg} (hb : PgB p) {x : Pts} (hx : PtB 2000000 x) (a b : Int) (hs : a2y p x = false) : PC Tryz.prog Gl 19 [.agg [.list 4 (fns p.funcs), .list 2 (gbs p.globals), .list 1 (lays p.layouts), .int .i64 p.main], .agg [.list 2 (sits x.sites), .list 1 (lls x.regs), .list 1 (lays x.cells)], .agg [.int .i64 a, .int .i64 b]] (.list 1 []) := by
 refine a3d (res := [.tmp 6]) 12 126 [66] (fun d ix => 0 :: d :: ix) (fn := Tryz.f19) (by kernel_rfl) (by rfl) (by rfl) (by rfl) (by simp) (by decide) ?_
 repeat' first
  | with_reducible first | refine a0u (id := 1) 35 a0m (by kernel_rfl) fun K hK => ?_ | refine stp ?_
  | (with_reducible refine stpK ?_; intro K hK)
  | (with_reducible refine stpC ?_; intro T E hT hE)
  | (with_reducible refine stp2 ?_ ?_ <;> intro h)
  | with_reducible first | refine a0p rfl ?_ | refine a1h (a4l hb hx) (by simp [nls, nl, *, NLXB]) ?_ | refine hpc (a4l hb hx) (by simp [nls, nl, *, NLXB]) ?_ | refine a1r rfl (Nat.le_of_ble_eq_true rfl) a0r ?_ | refine a1r rfl (Nat.le_of_ble_eq_true rfl) (a0q (by simp [HPXB, ext, upd, *])) ?_ | refine a1s (by decide) (by kernel_rfl) ?_ | refine a0x (by decide) ?_
  | (with_reducible refine Kont.go hK ?_; clear hK K)
  | ((with_reducible first | refine KT.go hT ?_ | refine KT.go hE ?_); clear hT hE T E)
  | simp [*, -List.all_flatten, -List.all_eq_true, DEFB, LENB, asR, a0w, a2t, List.take_length]
def outV (k : Nat) (l : List Int) : FV := match k with
 | 0 => .nils
 | _ + 1 => .list 1 (ints l)
theorem e2l (l : List Int) : outV 0 l = .nils := rfl
theorem d2z (k : Nat) (l : List Int) : nl (outV k l) = true := by cases k <;> simp [outV, nl, a0b]
theorem g1a {p : Pg} (hp : VOk p) {k : Nat} {l s : List Int} (hl : okS (a0i p).length l) (hs : okS (a0i p).length s) (h0 : k = 0 -> l = []) : PC Tryz.prog Gl 40 [outV k l, .list 1 (ints s)] (.list 1 (ints (a3v l s))) := by
 have h := a9t hp hl hs
 cases k with
 | succ k => exact h
 | zero =>
   have := h0 rfl
   subst this
   exact e2k h ⟨_, _, rfl, .inr ⟨1, rfl⟩, _, _, rfl, rfl, rfl⟩
theorem d2t {H : Heap} {k : Nat} {l : List Int} (h0 : k = 0 -> l = []) : PFin (frz H 8 (outV k l)) (.list 1 (ints l)) := by
 cases k with
 | zero =>
   have := h0 rfl
   subst this
   exact .inr ⟨1, rfl⟩
 | succ k => simp [outV, frz, PFin, asR, nl, a0b]
theorem arS {p : Pg} (hb : PgB p) {x : Pts} (hx : PtB 2000000 x) {f pc : Nat} (hf : f < p.funcs.length) (hcd : pc < p.funcs[f].code.length) (hs : a2y p x = true) (q : ((p.funcs[f]).code[pc]).op = 50) : PC Tryz.prog Gl 19 [.agg [.list 4 (fns p.funcs), .list 2 (gbs p.globals), .list 1 (lays p.layouts), .int .i64 p.main], .agg [.list 2 (sits x.sites), .list 1 (lls x.regs), .list 1 (lays x.cells)], .agg [.int .i64 (f : Int), .int .i64 (pc : Int)]] (.list 1 (ints (accP p x ((f : Int), (pc : Int))))) := by
 have i1 : ¬ (f : Int) < 0 := by omega
 have i2 : ¬ (pc : Int) < 0 := by omega
 have i3 : ¬ p.funcs.length <= f := by omega
 have i4 : ¬ p.funcs[f].code.length <= pc := by omega
 have hF := a5o hs
 have hv := a4b hs
 have hp := vOk hv
 have hn64 := hp.nf
 have hfx : f < x.regs.length := by rw [hF.rn]; exact hf
 have hI := hp.ins _ (List.getElem_mem hf) _ (List.getElem_mem hcd)
 have hIa := hI.a
 have hIb := hI.b
 have hin := b0w hs hf hcd
 generalize hX : (p.funcs[f]'hf).code[pc]'hcd = X at hin hI hIa hIb q
 clear hI
 have hsv := a2f hp
 have hnc : (p.funcs[f]'hf).code.length <= 1000 := (b1v (hp.head _ (List.getElem_mem hf))).2.2
 obtain ⟨⟨hb0, hb8⟩, hsel⟩ := e2d hv hf hcd (by rw [hX]; exact q)
 rw [hX] at hb0 hb8 hsel
 obtain ⟨nb, hnb⟩ : ∃ nb : Nat, X.b = (nb : Int) := ⟨X.b.toNat, by omega⟩
 have hres : accP p x ((f : Int), (pc : Int)) = selR x f (p.funcs[f]'hf).code pc nb := by
  rw [hin]
  simp [accI, accA, accB, q, hnb]
 clear hin
 have hle : pc + 1 + nb <= (p.funcs[f]'hf).code.length := by
  cases nb with
  | zero => omega
  | succ m => obtain ⟨h, _⟩ := hsel m (by omega); omega
 have hsel : ∀ k : Nat, k < nb -> ∃ h : pc + 1 + k < (p.funcs[f]'hf).code.length, isR (p.funcs[f]'hf) (((p.funcs[f]'hf).code[pc + 1 + k]'h).a) := fun k hk => hsel k (by omega)
 refine a3d (res := [.tmp 6]) 12 126 [66] (fun d ix => 0 :: d :: ix) (fn := Tryz.f19) (by kernel_rfl) (by rfl) (by rfl) (by rfl) (by simp) (by decide) ?_
 repeat' first
  | ((with_reducible refine a1u ?_); refine a2n (σ := {k : Nat // k <= nb}) (fun y => [(10, outV y.1 (selR x f (p.funcs[f]'hf).code pc y.1)), (11, .int .i64 ((y.1 : Int) + 1))]) [] (fun y => []) [] (fun y => []) (fun y => noH) (fun y => nb - y.1) ⟨0, by simp⟩ (gk3 (j := 0) [] (Bs.pc _) ?_ ?_ ?_ ?_ ?_ ?_ ?_) ?_; (iterate 7 (focus (first | rfl | (simp [LPXB, *, SIMB, hdN, injB, e2l, c6l]; done)))); rintro ⟨k, hk⟩; simp only [lpS, LPXB]; (try dsimp only at hk); rcases a1t hk with hlt | ⟨hlt, he⟩; rotate_left; subst k; rotate_left; obtain ⟨hkc, hkr⟩ := hsel k (by omega); obtain ⟨na, hna, hf', ha', hrg⟩ := b8t hF hf hkr; have hna0 : ¬ (na : Int) < 0 := (by omega); have haa : aAt (p.funcs[f]'hf).code (pc + 1 + k) = (na : Int) := (by rw [e3s hkc, hna]); have hks := d1z x f (p.funcs[f]'hf).code pc k; rw [haa, <- hna, hrg] at hks; have wm : IntKind.wrap .i64 ((pc : Int) + ((k : Int) + 1)) = (pc : Int) + 1 + (k : Int) := (by rw [IntKind.wrap_i64]; omega); have y1 : (0 : Int) <= (pc : Int) + 1 + (k : Int) := (by omega); have y2 : ((pc : Int) + 1 + (k : Int)).toNat = pc + 1 + k := (by omega); have wk : IntKind.wrap .i64 ((k : Int) + 1 + 1) = (k : Int) + 1 + 1 := (by rw [IntKind.wrap_i64]; omega); have hle1 : (k : Int) + 1 <= (nb : Int) := (by omega); have hu := g1a (k := k) hp (c0i hF f (p.funcs[f]'hf).code pc k) (hF.rs f hf' _ (List.getElem_mem ha')) (by intro e; subst e; rfl); rw [<- hks] at hu; rotate_left; have hle1 : ¬ (nb : Int) + 1 <= (nb : Int) := (by omega); rotate_left)
  | ((with_reducible refine a1p ?_); refine a2a (⟨k + 1, by omega⟩) (gk3 (j := 0) [] (Bs.pc _) ?_ ?_ ?_ ?_ ?_ ?_ ?_) ?_; (iterate 7 (focus (first | rfl | (simp [LPXB, *, SIMB, hdN, injB, e2l, c6l, outV]; done)))); (focus (dsimp only; omega)))
  | with_reducible first | refine a0u (id := 1) 35 a0m (by kernel_rfl) fun K hK => ?_ | refine stp ?_
  | (with_reducible refine stpK ?_; intro K hK)
  | (with_reducible refine stpC ?_; intro T E hT hE)
  | (with_reducible refine stp2 ?_ ?_ <;> intro h)
  | with_reducible first | refine a0p rfl ?_ | refine a1h (a4l hb hx) (by simp [nls, nl, *, NLXB]) ?_ | refine hpc (a4l hb hx) (by simp [nls, nl, *, NLXB]) ?_ | refine a1h hu (by simp [nls, nl, d2z, a0b]) ?_ | refine a1r rfl (Nat.le_of_ble_eq_true rfl) a0r ?_ | refine a1r rfl (Nat.le_of_ble_eq_true rfl) (a0q (by simp [HPXB, ext, upd, *])) ?_ | refine b8i _ (by decide) (by kernel_rfl) rfl (by kernel_rfl) (by simp [a2z]) rfl (Nat.le_of_ble_eq_true rfl) ?_ | refine a1s (by decide) (by kernel_rfl) ?_ | refine a0x (by decide) ?_
  | (with_reducible refine Kont.go hK ?_; clear hK K)
  | ((with_reducible first | refine KT.go hT ?_ | refine KT.go hE ?_); clear hT hE T E)
  | simp [*, -List.all_flatten, -List.all_eq_true, DEFB, LENB, asR, a0w, a2t, List.take_length, d2z]
 all_goals exact d2t (by intro e; subst e; rfl)
theorem arB {p : Pg} (hb : PgB p) {x : Pts} (hx : PtB 2000000 x) {f pc : Nat} (hf : f < p.funcs.length) (hcd : pc < p.funcs[f].code.length) (hs : a2y p x = true) (q : ((p.funcs[f]).code[pc]).op = 33 \/ ((p.funcs[f]).code[pc]).op = 35 \/ ((p.funcs[f]).code[pc]).op = 37 \/ ((p.funcs[f]).code[pc]).op = 38 \/ ((p.funcs[f]).code[pc]).op = 48) : PC Tryz.prog Gl 19 [.agg [.list 4 (fns p.funcs), .list 2 (gbs p.globals), .list 1 (lays p.layouts), .int .i64 p.main], .agg [.list 2 (sits x.sites), .list 1 (lls x.regs), .list 1 (lays x.cells)], .agg [.int .i64 (f : Int), .int .i64 (pc : Int)]] (.list 1 (ints (accP p x ((f : Int), (pc : Int))))) := by
 have i1 : ¬ (f : Int) < 0 := by omega
 have i2 : ¬ (pc : Int) < 0 := by omega
 have i3 : ¬ p.funcs.length <= f := by omega
 have i4 : ¬ p.funcs[f].code.length <= pc := by omega
 have hF := a5o hs
 have hv := a4b hs
 have hp := vOk hv
 have hn64 := hp.nf
 have hfx : f < x.regs.length := by rw [hF.rn]; exact hf
 have hI := hp.ins _ (List.getElem_mem hf) _ (List.getElem_mem hcd)
 have hIa := hI.a
 have hIb := hI.b
 have hin := b0w hs hf hcd
 generalize hX : (p.funcs[f]'hf).code[pc]'hcd = X at hin hI hIa hIb q
 clear hI
 rcases q with q | q | q | q | q
 all_goals
  have hr0 := a4d (r := (rR X.op).2.1) hIb (by rw [q]; decide)
  obtain ⟨na, hna, hf', ha', hrg⟩ := b8t hF hf hr0
  have hl1 := hx.rs _ (List.getElem_mem hf') _ (List.getElem_mem ha')
  have hna0 : ¬ (na : Int) < 0 := by omega
  have hcl := b9w (l := (x.regs[f]'hf')[na]'ha') (by omega)
  have hz := szn (n := ((x.regs[f]'hf')[na]'ha').length) (k := 8) (by omega) (by decide)
  have hz2 : ((x.regs[f]'hf')[na]'ha').length <= 4611686018427387904 := by omega
  have hres : accP p x ((f : Int), (pc : Int)) = (x.regs[f]'hf')[na]'ha' := by rw [hin]; simp [accI, accA, accB, q, hrg]
  clear hin
  refine a3d (res := [.tmp 6]) 12 126 [66] (fun d ix => 0 :: d :: ix) (fn := Tryz.f19) (by kernel_rfl) (by rfl) (by rfl) (by rfl) (by simp) (by decide) ?_
  repeat' first
   | with_reducible first | refine a0u (id := 1) 35 a0m (by kernel_rfl) fun K hK => ?_ | refine stp ?_
   | (with_reducible refine stpK ?_; intro K hK)
   | (with_reducible refine stpC ?_; intro T E hT hE)
   | (with_reducible refine stp2 ?_ ?_ <;> intro h)
   | with_reducible first | refine a0p rfl ?_ | refine a1h (a4l hb hx) (by simp [nls, nl, *, NLXB]) ?_ | refine hpc (a4l hb hx) (by simp [nls, nl, *, NLXB]) ?_ | refine a1r rfl (Nat.le_of_ble_eq_true rfl) a0r ?_ | refine a1r rfl (Nat.le_of_ble_eq_true rfl) (a0q (by simp [HPXB, ext, upd, *])) ?_ | refine a1s (by decide) (by kernel_rfl) ?_ | refine a0x (by decide) ?_
   | (with_reducible refine Kont.go hK ?_; clear hK K)
   | ((with_reducible first | refine KT.go hT ?_ | refine KT.go hE ?_); clear hT hE T E)
   | simp [*, -List.all_flatten, -List.all_eq_true, DEFB, LENB, asR, a0w, a2t, List.take_length, a3e, rmvs, rmv, a3g]
theorem arO {p : Pg} (hb : PgB p) {x : Pts} (hx : PtB 2000000 x) {f pc : Nat} (hf : f < p.funcs.length) (hcd : pc < p.funcs[f].code.length) (hs : a2y p x = true) (q : ¬ ((p.funcs[f]).code[pc]).op = 33 /\ ¬ ((p.funcs[f]).code[pc]).op = 34 /\ ¬ ((p.funcs[f]).code[pc]).op = 35 /\ ¬ ((p.funcs[f]).code[pc]).op = 36 /\ ¬ ((p.funcs[f]).code[pc]).op = 37 /\ ¬ ((p.funcs[f]).code[pc]).op = 38 /\ ¬ ((p.funcs[f]).code[pc]).op = 39 /\ ¬ ((p.funcs[f]).code[pc]).op = 40 /\ ¬ ((p.funcs[f]).code[pc]).op = 41 /\ ¬ ((p.funcs[f]).code[pc]).op = 42 /\ ¬ ((p.funcs[f]).code[pc]).op = 43 /\ ¬ ((p.funcs[f]).code[pc]).op = 44 /\ ¬ ((p.funcs[f]).code[pc]).op = 45 /\ ¬ ((p.funcs[f]).code[pc]).op = 46 /\ ¬ ((p.funcs[f]).code[pc]).op = 47 /\ ¬ ((p.funcs[f]).code[pc]).op = 48 /\ ¬ ((p.funcs[f]).code[pc]).op = 49 /\ ¬ ((p.funcs[f]).code[pc]).op = 50 /\ ¬ ((p.funcs[f]).code[pc]).op = 51) : PC Tryz.prog Gl 19 [.agg [.list 4 (fns p.funcs), .list 2 (gbs p.globals), .list 1 (lays p.layouts), .int .i64 p.main], .agg [.list 2 (sits x.sites), .list 1 (lls x.regs), .list 1 (lays x.cells)], .agg [.int .i64 (f : Int), .int .i64 (pc : Int)]] (.list 1 (ints (accP p x ((f : Int), (pc : Int))))) := by
 have i1 : ¬ (f : Int) < 0 := by omega
 have i2 : ¬ (pc : Int) < 0 := by omega
 have i3 : ¬ p.funcs.length <= f := by omega
 have i4 : ¬ p.funcs[f].code.length <= pc := by omega
 have hF := a5o hs
 have hv := a4b hs
 have hp := vOk hv
 have hn64 := hp.nf
 have hfx : f < x.regs.length := by rw [hF.rn]; exact hf
 have hI := hp.ins _ (List.getElem_mem hf) _ (List.getElem_mem hcd)
 have hIa := hI.a
 have hIb := hI.b
 have hin := b0w hs hf hcd
 generalize hX : (p.funcs[f]'hf).code[pc]'hcd = X at hin hI hIa hIb q
 clear hI
 have hq := q
 obtain ⟨o33, o34, o35, o36, o37, o38, o39, o40, o41, o42, o43, o44, o45, o46, o47, o48, o49, o50, o51⟩ := q
 have hres : accP p x ((f : Int), (pc : Int)) = [] := by
  rw [hin]
  have h1 : ¬ accA X.op := by unfold accA; omega
  have h2 : ¬ accB X.op := by unfold accB; omega
  have h3 : ¬ X.op = 50 := by omega
  simp only [accI, h1, h2, h3, if_false]
 clear hin hq
 refine a3d (res := [.tmp 6]) 12 126 [66] (fun d ix => 0 :: d :: ix) (fn := Tryz.f19) (by kernel_rfl) (by rfl) (by rfl) (by rfl) (by simp) (by decide) ?_
 repeat' first
  | ((with_reducible refine a1u ?_); refine a2n (σ := Unit) (fun y => []) [] (fun y => []) [] (fun y => []) (fun y => noH) (fun y => 0) () (gk3 (j := 0) [] (Bs.pc _) ?_ ?_ ?_ ?_ ?_ ?_ ?_) ?_; (iterate 7 (focus (first | rfl | (simp [LPXB, *, SIMB, hdN, injB]; done)))); rintro ⟨⟩; simp only [lpS, LPXB]; skip)
  | with_reducible first | refine a0u (id := 1) 35 a0m (by kernel_rfl) fun K hK => ?_ | refine stp ?_
  | (with_reducible refine stpK ?_; intro K hK)
  | (with_reducible refine stpC ?_; intro T E hT hE)
  | (with_reducible refine stp2 ?_ ?_ <;> intro h)
  | with_reducible first | refine a0p rfl ?_ | refine a1h (a4l hb hx) (by simp [nls, nl, *, NLXB]) ?_ | refine hpc (a4l hb hx) (by simp [nls, nl, *, NLXB]) ?_ | refine a1r rfl (Nat.le_of_ble_eq_true rfl) a0r ?_ | refine a1r rfl (Nat.le_of_ble_eq_true rfl) (a0q (by simp [HPXB, ext, upd, *])) ?_ | refine a1s (by decide) (by kernel_rfl) ?_ | refine a0x (by decide) ?_
  | (with_reducible refine Kont.go hK ?_; clear hK K)
  | ((with_reducible first | refine KT.go hT ?_ | refine KT.go hE ?_); clear hT hE T E)
  | simp [*, -List.all_flatten, -List.all_eq_true, DEFB, LENB, asR, a0w, a2t, List.take_length]
end Go.Ge
