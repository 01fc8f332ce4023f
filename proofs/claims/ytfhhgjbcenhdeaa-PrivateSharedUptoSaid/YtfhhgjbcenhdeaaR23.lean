/- Parts of the proof. -/
import Derived.Test.YtfhhgjbcenhdeaaR21
set_option linter.unusedSimpArgs false
set_option linter.unusedVariables false
namespace Go.He
open Go Go.FM Go.Gv Go.Proofs
set_option maxRecDepth 100000
set_option maxHeartbeats 40000000
theorem e2h {p : Pg} (hp : VOk p) {x : Pts} (hF : Gv.Form p x) {f : Nat} (hf : f < p.funcs.length) {j : Nat} (hj : j < p.funcs[f].code.length) (hfx : f < x.regs.length) (o : p.funcs[f].code[j].op = 31) : ∃ bn cn nk : Nat, p.funcs[f].code[j].b = (bn : Int) /\ p.funcs[f].code[j].c = (cn : Int) /\ ∃ hbn : bn < p.funcs.length, p.funcs[bn].params = (nk : Int) /\ nk <= 64 /\ nk = (a5f p.funcs p.funcs[f].code[j].b).toNat /\ cn + nk <= x.regs[f].length := by
 have hI := hp.ins _ (List.getElem_mem hf) _ (List.getElem_mem hj)
 have hIb := hI.b
 rw [o] at hIb
 obtain ⟨b0, b1, c0, c1⟩ := a7a hp (List.getElem_mem hf) hIb
 have hbn : p.funcs[f].code[j].b.toNat < p.funcs.length := by omega
 have hpr := hp.regs (List.getElem_mem hbn)
 have hpa := a8l p.funcs p.funcs[f].code[j].b hbn
 have hln := hF.fn f hfx hf
 have h64 := c6f hp p.funcs[f].code[j].b
 have hp0 := hpr.p0
 have hfe : (fnAt p p.funcs[f].code[j].b).params = p.funcs[p.funcs[f].code[j].b.toNat].params := by rw [<- c9d, hpa]
 refine ⟨p.funcs[f].code[j].b.toNat, p.funcs[f].code[j].c.toNat, p.funcs[p.funcs[f].code[j].b.toNat].params.toNat, by omega, by omega, hbn, by omega, ?_, by rw [hpa], ?_⟩
 . rw [<- hpa]; exact h64
 . rw [hfe] at c1
   omega
theorem e1c {p : Pg} {x : Pts} (hF : Gv.Form p x) {f : Nat} (hf : f < p.funcs.length) {a : Int} (h : isR p.funcs[f] a) : ∃ na : Nat, a = (na : Int) /\ ∃ hf' : f < x.regs.length, ∃ ha : na < x.regs[f].length, rg x f a = x.regs[f][na] := by
 have hf' : f < x.regs.length := by rw [hF.rn]; exact hf
 have h1 := hF.fn f hf' hf
 obtain ⟨h2, h3⟩ := h
 refine ⟨a.toNat, by omega, hf', by omega, ?_⟩
 have e : a = ((a.toNat : Nat) : Int) := by omega
 have ha : a.toNat < x.regs[f].length := by omega
 rw [show rg x f a = rg x f ((a.toNat : Nat) : Int) by rw [<- e], c8z hf' ha]
theorem f0r (p : Pg) (x : Pts) : mA p x p.funcs.length = l0R p x := rfl
theorem c8s {p : Pg} {x : Pts} (hx : PtB 2000000 x) (hS : PC Try.prog Gl 14 [.agg [.list 4 (fns p.funcs), .list 2 (gbs p.globals), .list 1 (lays p.layouts), .int .i64 p.main], .agg [.list 2 (sits x.sites), .list 1 (lls x.regs), .list 1 (lays x.cells)]] (.bool true)) (hp : VOk p) (hF : Gv.Form p x) : PC Try.prog Gl 12 [.agg [.list 4 (fns p.funcs), .list 2 (gbs p.globals), .list 1 (lays p.layouts), .int .i64 p.main], .agg [.list 2 (sits x.sites), .list 1 (lls x.regs), .list 1 (lays x.cells)]] (.list 1 (a3t (rchL p x))) := by
 have hxs := hx.s
 have hs := hF.sites
 have hsv := a2b hp
 have hnf := hp.nf
 have hrn := hF.rn
 have hcn := hF.cn
 have hsl : x.sites.length = (a0d p).length := by rw [hs]
 rw [hs] at hS
 have hs1 : ((a0d p).length : Int) <= 4611686018427387904 := by omega
 have hs2 : ((a0d p).length : Int) <= 281474976710656 := by omega
 have hpos := a6r p
 have hg0 : (a3t (List.replicate (a0d p).length false))[0]? = some [.bool false] := by
  rw [a5r (by simpa using hpos)]; simp
 have hm1 := mod0 (a0d p).length
 rw [mA_0 p x] at hm1
 refine a3w (res := [.tmp 4]) 13 127 [] (fun d ix => 0 :: d :: ix) (fn := Try.f12) (by kernel_rfl) (by rfl) (by rfl) (by rfl) (by simp) (by decide) ?_
 repeat' first
  | ((with_reducible refine a1o ?_); refine a2h (σ := {f : Nat // f <= p.funcs.length}) (fun y => [(7, .int .i64 (y.1 : Int)), (8, .undef), (9, .undef), (10, .undef)]) [] (fun y => []) [[0, 9]] (fun y => [([0, 16], .cells 4 1 (a3t (mA p x y.1)))]) (fun y => noH) (fun y => p.funcs.length - y.1) ⟨0, by simp⟩ (gk3 (j := 0) [] (Bs.pc _) ?_ ?_ ?_ ?_ ?_ ?_ ?_) ?_; (iterate 7 (focus (first | rfl | (simp [LPXB, *, SIMB, hdN, injB, a1t, a1x, a2w, c6o]; done)))); rintro ⟨f, hf⟩; simp only [lpS, LPXB]; (try dsimp only at hf); rcases a1l hf with hlf | ⟨hlf, he⟩; rotate_left; subst f; rotate_left; have wf := wli hlf (by omega); have hfx : f < x.regs.length := (by omega); have hA := mA_s (x := x) hlf; have hcl : (p.funcs[f]'hlf).code.length <= 1000 := (a7r (hp.head _ (List.getElem_mem hlf))).2.2; have hB0 := mB_0 p x f (p.funcs[f]'hlf).code; have h64 : (x.regs[f]'hfx).length <= 64 := (by have h1 := hF.fn f hfx hlf; have h2 := (hp.regs (List.getElem_mem hlf)).r64; omega))
  | ((with_reducible refine a1o ?_); refine a2h (σ := {j : Nat // j <= (p.funcs[f]'hlf).code.length}) (fun y => [(8, .int .i64 (y.1 : Int)), (9, .undef), (10, .undef)]) [] (fun y => []) [[0, 9]] (fun y => [([0, 16], .cells 4 1 (a3t (mB p x f (p.funcs[f]'hlf).code y.1)))]) (fun y => noH) (fun y => (p.funcs[f]'hlf).code.length - y.1) ⟨0, by simp⟩ (gk3 (j := 0) [] (Bs.pc _) ?_ ?_ ?_ ?_ ?_ ?_ ?_) ?_; (iterate 7 (focus (first | rfl | (simp [LPXB, *, SIMB, hdN, injB, a1t, a1x, a2w, b7i]; done)))); rintro ⟨j, hj⟩; simp only [lpS, LPXB]; (try dsimp only at hj); rcases a1l hj with hlj | ⟨hlj, he⟩; rotate_left; subst j; rotate_left; have wj := wli hlj (by omega); have hI := hp.ins _ (List.getElem_mem hlf) _ (List.getElem_mem hlj); have hIa := hI.a; have hIb := hI.b; have hk31 : ((p.funcs[f]'hlf).code[j]'hlj).op = 31 -> ∃ bn cn nk : Nat, ((p.funcs[f]'hlf).code[j]'hlj).b = (bn : Int) /\ ((p.funcs[f]'hlf).code[j]'hlj).c = (cn : Int) /\ ∃ hbn : bn < p.funcs.length, (p.funcs[bn]'hbn).params = (nk : Int) /\ nk <= 64 /\ nk = (a5f p.funcs ((p.funcs[f]'hlf).code[j]'hlj).b).toNat /\ cn + nk <= (x.regs[f]'hfx).length := e2h hp hF hlf hlj hfx; by_cases o31 : ((p.funcs[f]'hlf).code[j]'hlj).op = 31; obtain ⟨bn, cn, nk, hbn, hcn, hbl, hpn, hnk, hnk2, hck⟩ := hk31 o31; have o32 : ¬ ((p.funcs[f]'hlf).code[j]'hlj).op = 32 := (by omega); have hD0 := g1h (p := p) (x := x) (f := f) (code := (p.funcs[f]'hlf).code) (j := j) o31; have hDe := f0j (p := p) (x := x) (f := f) hlj o31 hnk2; have hDs := f0i (p := p) (x := x) (f := f) (code := (p.funcs[f]'hlf).code) (j := j) o31; clear hk31 hnk2; rotate_left; clear hk31; by_cases o32 : ((p.funcs[f]'hlf).code[j]'hlj).op = 32; have hD0 := f0h (p := p) (x := x) (f := f) (code := (p.funcs[f]'hlf).code) (j := j) o31; have hm0 := g1j (p := p) (x := x) (f := f) hlj o32; have hr0 := a4l (r := (rR ((p.funcs[f]'hlf).code[j]'hlj).op).1) hIa (by rw [o32]; decide); obtain ⟨na, hna, hf', ha', hrg⟩ := e1c hF hlf hr0; have hna0 : ¬ (na : Int) < 0 := (by omega); rw [hrg] at hm0; have hm := fun (H : Heap) (h : H [0, 16] = some (.cells 4 1 (a3t (mB p x f (p.funcs[f]'hlf).code j)))) => c3l (b7i p x f (p.funcs[f]'hlf).code j) (hF.rs f hf' _ (List.getElem_mem ha')).2 (by have := a6w (hF.rs f hf' _ (List.getElem_mem ha')); omega) h; rw [hm0] at hm; rotate_left; have hD0 := f0h (p := p) (x := x) (f := f) (code := (p.funcs[f]'hlf).code) (j := j) o31; have hm0 := g1i (p := p) (x := x) (f := f) hlj o31 o32; rotate_left)
  | ((with_reducible refine a1o ?_); have o31' := o31; have hnk' := hnk; refine a2h (σ := {k : Nat // k <= nk}) (fun y => [(10, .int .i64 (y.1 : Int))]) [] (fun y => []) [] (fun y => [([0, 16], .cells 4 1 (a3t (mD p x f (p.funcs[f]'hlf).code j ((p.funcs[f]'hlf).code[j]'hlj) y.1)))]) (fun y => noH) (fun y => nk - y.1) ⟨0, by simp⟩ (gk3 (j := 0) [] (Bs.pc _) ?_ ?_ ?_ ?_ ?_ ?_ ?_) ?_; (iterate 7 (focus (first | rfl | (simp [LPXB, *, SIMB, hdN, injB, a1t, a1x, a2w, d2h, hD0]; done)))); rintro ⟨k, hk⟩; simp only [lpS, LPXB]; (try dsimp only at hk); rcases a1l hk with hlk | ⟨hlk, he⟩; rotate_left; subst k; rotate_left; have wk := wli hlk (by omega); have hck2 : cn + k < (x.regs[f]'hfx).length := (by omega); have wck : IntKind.wrap .i64 ((cn : Int) + (k : Int)) = (cn : Int) + (k : Int) := (by rw [IntKind.wrap_i64]; omega); have y1 : (0 : Int) <= (cn : Int) + (k : Int) := (by omega); have y2 : ((cn : Int) + (k : Int)).toNat = cn + k := (by omega); have hrk : rg x f (((p.funcs[f]'hlf).code[j]'hlj).c + (k : Int)) = (x.regs[f]'hfx)[cn + k]'hck2 := (by rw [hcn]; exact c8z (x := x) (f := f) (a := cn + k) hfx hck2); have hDk := hDs k; rw [hrk] at hDk; have hm := fun (H : Heap) (h : H [0, 16] = some (.cells 4 1 (a3t (mD p x f (p.funcs[f]'hlf).code j ((p.funcs[f]'hlf).code[j]'hlj) k)))) => c3l (d2h p x f (p.funcs[f]'hlf).code j ((p.funcs[f]'hlf).code[j]'hlj) k) (hF.rs f hfx _ (List.getElem_mem hck2)).2 (by have := a6w (hF.rs f hfx _ (List.getElem_mem hck2)); omega) h; rw [<- hDk] at hm)
  | ((with_reducible refine a1o ?_); have o31' : ¬ ((p.funcs[f]'hlf).code[j]'hlj).op = 31 := o31; have hD0' := hD0; refine a2h (σ := {k : Nat // k = 0}) (fun y => [(10, .int .i64 (y.1 : Int))]) [] (fun y => []) [] (fun y => [([0, 16], .cells 4 1 (a3t (mB p x f (p.funcs[f]'hlf).code (j + 1))))]) (fun y => noH) (fun y => 0) ⟨0, rfl⟩ (gk3 (j := 0) [] (Bs.pc _) ?_ ?_ ?_ ?_ ?_ ?_ ?_) ?_; (iterate 7 (focus (first | rfl | (simp [LPXB, *, SIMB, hdN, injB, a1t, a1x, a2w, b7i]; done)))); rintro ⟨k, hk⟩; simp only [lpS, LPXB]; (try dsimp only at hk); subst hk)
  | ((with_reducible refine cgB ?_); refine e7e (hm _ ?_) ?_; (focus (simp [a2e, a2s, a2m, a4y]; done)))
  | ((with_reducible refine a1j ?_); refine a1w (⟨k + 1, by omega⟩) (gk3 (j := 0) [] (Bs.pc _) ?_ ?_ ?_ ?_ ?_ ?_ ?_) ?_; (iterate 7 (focus (first | rfl | (simp [LPXB, *, SIMB, hdN, injB, a1t, a1x, a2w, d2h]; done)))); (focus (dsimp only; omega)))
  | ((with_reducible refine a1j ?_); refine a1w (⟨j + 1, by omega⟩) (gk3 (j := 0) [] (Bs.pc _) ?_ ?_ ?_ ?_ ?_ ?_ ?_) ?_; (iterate 7 (focus (first | rfl | (simp [LPXB, *, SIMB, hdN, injB, a1t, a1x, a2w, b7i]; done)))); (focus (dsimp only; omega)))
  | ((with_reducible refine a1j ?_); refine a1w (⟨f + 1, by omega⟩) (gk3 (j := 0) [] (Bs.pc _) ?_ ?_ ?_ ?_ ?_ ?_ ?_) ?_; (iterate 7 (focus (first | rfl | (simp [LPXB, *, SIMB, hdN, injB, a1t, a1x, a2w, c6o]; done)))); (focus (dsimp only; omega)))
  | ((with_reducible refine a1o ?_); refine a2h (σ := {y : Nat × List Bool // y.1 <= (a0d p).length /\ Rds p x y.2 y.1}) (fun y => [(11, .int .i64 (y.1.1 : Int)), (12, .undef)]) [] (fun y => []) [] (fun y => [([0, 16], .cells 4 1 (a3t (y.1.2)))]) (fun y => noH) (fun y => (a0d p).length - y.1.1) ⟨(0, l0R p x), by simp, Rds.init hF⟩ (gk3 (j := 0) [] (Bs.pc _) ?_ ?_ ?_ ?_ ?_ ?_ ?_) ?_; (iterate 7 (focus (first | rfl | (simp [LPXB, *, SIMB, hdN, injB, a1t, a1x, a2w, f0r]; done)))); rintro ⟨⟨r, l⟩, hr, hR⟩; simp only [lpS, LPXB]; (try dsimp only at hr hR); have hll := hR.len; rcases a1l hr with hlr | ⟨hlr, he⟩; rotate_left; subst r; have hfin := hR.fin hF; subst hfin; rotate_left; have wr := wli hlr (by omega))
  | ((with_reducible refine a1o ?_); refine a2h (σ := {o : Nat // o <= (a0d p).length}) (fun y => [(12, .int .i64 (y.1 : Int))]) [] (fun y => []) [] (fun y => [([0, 16], .cells 4 1 (a3t (rdS x l y.1)))]) (fun y => noH) (fun y => (a0d p).length - y.1) ⟨0, by simp⟩ (gk3 (j := 0) [] (Bs.pc _) ?_ ?_ ?_ ?_ ?_ ?_ ?_) ?_; (iterate 7 (focus (first | rfl | (simp [LPXB, *, SIMB, hdN, injB, a1t, a1x, a2w, a8k, g0w]; done)))); rintro ⟨o, ho⟩; simp only [lpS, LPXB]; (try dsimp only at ho); have hdl : (rdS x l o).length = (a0d p).length := (by rw [a8k]; exact hll); rcases a1l ho with hlo | ⟨hlo, he⟩; rotate_left; subst o; have hnx := hR.next hF; rw [hll] at hnx; rotate_left; have wo := wli hlo (by omega); have hox : o < x.cells.length := (by omega); have hga : (a3t (rdS x l o))[o]? = some [.bool ((rdS x l o)[o]'(by omega))] := a5r (by omega); have hs1 := c9b x l o; rw [List.getElem?_eq_getElem (by omega : o < (rdS x l o).length)] at hs1; cases hb : (rdS x l o)[o]'(by omega); rw [hb] at hga hs1; simp only [reduceCtorEq, if_false, Option.some.injEq, Bool.false_eq_true] at hs1; rotate_left; rw [hb] at hga hs1; simp only [if_true] at hs1; rw [c9t hox] at hs1; have hm := fun (H : Heap) (h : H [0, 16] = some (.cells 4 1 (a3t (rdS x l o)))) => c3l hdl (hF.cs _ (List.getElem_mem hox)).2 (by have := a6w (hF.cs _ (List.getElem_mem hox)); omega) h; rw [<- hs1] at hm; rotate_left)
  | ((with_reducible refine a1j ?_); refine a1w (⟨o + 1, by omega⟩) (gk3 (j := 0) [] (Bs.pc _) ?_ ?_ ?_ ?_ ?_ ?_ ?_) ?_; (iterate 7 (focus (first | rfl | (simp [LPXB, *, SIMB, hdN, injB, a1t, a1x, a2w, a8k]; done)))); (focus (dsimp only; omega)))
  | ((with_reducible refine a1j ?_); refine a1w (⟨(r + 1, rdS x l (a0d p).length), by omega, hnx⟩) (gk3 (j := 0) [] (Bs.pc _) ?_ ?_ ?_ ?_ ?_ ?_ ?_) ?_; (iterate 7 (focus (first | rfl | (simp [LPXB, *, SIMB, hdN, injB, a1t, a1x, a2w, a8k]; done)))); (focus (dsimp only; omega)))
  | with_reducible first | refine a0p (id := 21) 12 a0k (by kernel_rfl) fun K hK => ?_ | refine a0p (id := 17) 10 a0k (by kernel_rfl) fun K hK => ?_ | refine stp ?_
  | (with_reducible refine stpK ?_; intro K hK)
  | (with_reducible refine stpC ?_; intro T E hT hE)
  | (with_reducible refine stp2 ?_ ?_ <;> intro h)
  | with_reducible first | refine a0q rfl ?_ | refine a1n hS (by simp [nls, nl, *, NLXB]) ?_ | refine hpc hS (by simp [nls, nl, *, NLXB]) ?_ | refine a0t rfl (Nat.le_of_ble_eq_true rfl) a0s ?_ | refine a0t rfl (Nat.le_of_ble_eq_true rfl) (a0r (by simp [HPXB, a4y, ext, upd, *])) ?_ | refine a1v (by decide) (by kernel_rfl) ?_ | refine a0x (by decide) ?_
  | (with_reducible refine Kont.go hK ?_; clear hK K)
  | ((with_reducible first | refine KT.go hT ?_ | refine KT.go hE ?_); clear hT hE T E)
  | simp [*, -List.all_flatten, -List.all_eq_true, DEFB, LENB, b2i, c7d, asR, a1t, a9f, a6k, a1x, a2w, b2g, b6l, a1u, a2e, a4y, List.take_length, c6o, b7i, b0e]
 all_goals first
  | (rw [List.take_of_length_le (by rw [b0e]; exact Nat.le_refl _)]; done)
  | trace_state
theorem szB {n : Nat} (h : n <= 10000000000000) : (n + n / 4 + 192) * 8 <= 140737488355328 := by omega
theorem sz62 {n : Nat} (h : n <= 10000000000000) : n <= 4611686018427387904 := by omega
def sQ (p : Pg) (x : Pts) (f : Nat) (code : List Ins) (j : Nat) : List Int := rtP p x f ++ rtQ p x f code j
def sK (p : Pg) (x : Pts) (f : Nat) (code : List Ins) (j : Nat) (n : Ins) (k : Nat) : List Int := sQ p x f code j ++ rtK x f n k
theorem sP_s {p : Pg} {x : Pts} {f : Nat} (h : f < p.funcs.length) : rtP p x (f + 1) = sQ p x f p.funcs[f].code p.funcs[f].code.length := e4a h
theorem sQ_0 (p : Pg) (x : Pts) (f : Nat) (code : List Ins) : sQ p x f code 0 = rtP p x f := by simp [sQ, rtQ]
theorem sQ_s {p : Pg} {x : Pts} {f : Nat} {code : List Ins} {j : Nat} (h : j < code.length) : sQ p x f code (j + 1) = sQ p x f code j ++ rtI p x f code[j] := by rw [sQ, e9e h, <- List.append_assoc]; rfl
theorem sK_0 (p : Pg) (x : Pts) (f : Nat) (code : List Ins) (j : Nat) (n : Ins) : sK p x f code j n 0 = sQ p x f code j := by simp [sK, rtK]
theorem sK_s (p : Pg) (x : Pts) (f : Nat) (code : List Ins) (j : Nat) (n : Ins) (k : Nat) : sK p x f code j n (k + 1) = sK p x f code j n k ++ rg x f (n.c + k) := by rw [sK, e9f, <- List.append_assoc]; rfl
theorem sK_e {p : Pg} {x : Pts} {f : Nat} {code : List Ins} {j : Nat} (hj : j < code.length) (h : code[j].op = 31) {k : Nat} (hk : k = (a5f p.funcs code[j].b).toNat) : sK p x f code j code[j] k = sQ p x f code (j + 1) := by
 rw [sQ_s hj]
 simp only [sK, rtI, h, if_true, hk]
theorem g0h {p : Pg} {x : Pts} {f : Nat} {code : List Ins} {j : Nat} (hj : j < code.length) (h : code[j].op = 32) : sQ p x f code j ++ rg x f code[j].a = sQ p x f code (j + 1) := by
 have h1 : ¬ code[j].op = 31 := by omega
 rw [sQ_s hj]
 simp [rtI, h]
theorem g0g {p : Pg} {x : Pts} {f : Nat} {code : List Ins} {j : Nat} (hj : j < code.length) (h1 : ¬ code[j].op = 31) (h2 : ¬ code[j].op = 32) : sQ p x f code (j + 1) = sQ p x f code j := by
 rw [sQ_s hj]
 simp [rtI, h1, h2]
theorem e0x {p : Pg} (hp : VOk p) {x : Pts} (hx : Gv.Form p x) {i : Nat} (h : i <= p.funcs.length) : (rtP p x i).length <= 300000000000 := by
 have h1 := d1j hp hx i h
 have h2 := a2b hp
 have h3 := hp.nf
 have h4 : i * (1000 * (64 * (a0d p).length)) <= 64 * (1000 * (64 * 64001)) := Nat.mul_le_mul (by omega) (by omega)
 omega
theorem e9d {p : Pg} (hp : VOk p) {x : Pts} (hx : Gv.Form p x) {f : Nat} (hf : f < p.funcs.length) {j : Nat} (hj : j <= p.funcs[f].code.length) : (sQ p x f p.funcs[f].code j).length <= 400000000000 := by
 have h0 := e0x hp hx (Nat.le_of_lt hf)
 have h1 := d1i hp hx hf hj
 have h2 := a2b hp
 have h3 : p.funcs[f].code.length <= 1000 := (a7r (hp.head _ (List.getElem_mem hf))).2.2
 have h4 : j * (64 * (a0d p).length) <= 1000 * (64 * 64001) := Nat.mul_le_mul (by omega) (by omega)
 rw [sQ, List.length_append]
 omega
theorem g0i {p : Pg} (hp : VOk p) {x : Pts} (hx : Gv.Form p x) {f : Nat} (hf : f < p.funcs.length) {j : Nat} (hj : j <= p.funcs[f].code.length) (n : Ins) {k : Nat} (hk : k <= 64) : (sK p x f p.funcs[f].code j n k).length <= 500000000000 := by
 have h0 := e9d hp hx hf hj
 have h1 := d1k hx (f := f) (n := n) (k := k)
 have h2 := a2b hp
 have h4 : k * (a0d p).length <= 64 * 64001 := Nat.mul_le_mul hk h2
 rw [sK, List.length_append]
 omega
theorem f9v {p : Pg} {x : Pts} (hx : Gv.Form p x) (l : List Bool) : wt x l <= l.length * ((a0d p).length + 1) := by
 unfold wt
 have key : ∀ n, ((List.range n).map fun (o : Nat) => if l[o]? = some true then 0 else (cl x (o : Int)).length + 1).sum <= n * ((a0d p).length + 1) := by
  intro n
  induction n with
  | zero => simp
  | succ n ih =>
    have h1 := e4m (hx.cell (n : Int))
    rw [List.range_succ, List.map_append, List.sum_append, Nat.add_mul, Nat.one_mul]
    simp only [List.map_cons, List.map_nil, List.sum_cons, List.sum_nil, Nat.add_zero]
    split <;> omega
 exact key _
theorem f5a {p : Pg} (hp : VOk p) {x : Pts} (hx : Gv.Form p x) {l : List Bool} {st : List Int} (h : Dfs p x l st) : st.length <= 600000000000 := by
 have h0 := h.bd
 have h1 := e0x hp hx (Nat.le_refl p.funcs.length)
 have h2 := f9v hx (List.replicate (a0d p).length false)
 have h3 := a2b hp
 have h4 : (a0d p).length * ((a0d p).length + 1) <= 64001 * 64002 := Nat.mul_le_mul h3 (by omega)
 rw [List.length_replicate] at h2
 unfold stkK at h0
 have h5 : (rtA p x).length <= 300000000000 := h1
 omega
theorem b7g : ∀ (l : List Int), l = [] \/ ∃ m o, l = m ++ [o]
 | [] => .inl rfl
 | a :: r => by
   rcases b7g r with rfl | ⟨m, o, rfl⟩
   . exact .inr ⟨[], a, rfl⟩
   . exact .inr ⟨a :: m, o, rfl⟩
theorem c0k (m : List Int) (o : Int) (r : List Int) : (ints ((m ++ [o]) ++ r))[m.length]? = some [.int .i64 o] := by
 simp [ints, a2j]
theorem c0l (m r : List Int) : (ints (m ++ r)).take m.length = ints m := by rw [a4e]; simp
theorem g0k (p : Pg) (x : Pts) : rtP p x 0 = [0] := rfl
theorem e9g (p : Pg) (x : Pts) : rtA p x = rtP p x p.funcs.length := rfl
theorem d0p {p : Pg} {x : Pts} (hx : PtB 2000000 x) (hS : PC Try.prog Gl 18 [.agg [.list 4 (fns p.funcs), .list 2 (gbs p.globals), .list 1 (lays p.layouts), .int .i64 p.main], .agg [.list 2 (sits x.sites), .list 1 (lls x.regs), .list 1 (lays x.cells)]] (.bool false)) : PC Try.prog Gl 11 [.agg [.list 4 (fns p.funcs), .list 2 (gbs p.globals), .list 1 (lays p.layouts), .int .i64 p.main], .agg [.list 2 (sits x.sites), .list 1 (lls x.regs), .list 1 (lays x.cells)]] (.list 1 (a3t (List.replicate x.sites.length true))) := by
 have hxs := hx.s
 have hs1 : (x.sites.length : Int) <= 4611686018427387904 := by omega
 have hs2 : (x.sites.length : Int) <= 281474976710656 := by omega
 refine a3w (res := [.tmp 4]) 14 121 [24, 23, 36, 35, 34, 44, 43, 42, 49, 59, 58] (fun d ix => 0 :: d :: ix) (fn := Try.f11) (by kernel_rfl) (by rfl) (by rfl) (by rfl) (by simp) (by decide) ?_
 repeat' first
  | ((with_reducible refine a1o ?_); refine a2h (σ := {i : Nat // i <= x.sites.length}) (fun y => [(6, .undef)]) [23] (fun y => [(24, .int .i64 (y.1 : Int))]) [] (fun y => [([0, 17], .cells 4 1 (a3t (repB x.sites.length y.1)))]) (fun y => noH) (fun y => x.sites.length - y.1) ⟨0, by simp⟩ (gk3 (j := 0) [] (Bs.pc _) ?_ ?_ ?_ ?_ ?_ ?_ ?_) ?_; (iterate 7 (focus (first | rfl | (simp [LPXB, *, SIMB, hdN, injB, a1t, a1x, a2w, e1b]; done)))); rintro ⟨i, hi⟩; simp only [lpS, LPXB]; (try dsimp only at hi); rcases a1l hi with hlt | ⟨hlt, rfl⟩; have wi := wli hlt (Nat.le_trans hx.s (by decide)); have hrl := c6b hi; have hga : (a3t (repB x.sites.length i))[i]? = some [.bool ((repB x.sites.length i)[i]'(by omega))] := a5r (by omega); have hbm := b1q (repB x.sites.length i) i true (by omega); rw [e1a hlt] at hbm; rotate_left; have hre := c6c x.sites.length; rotate_left)
  | ((with_reducible refine a1j ?_); refine a1w (⟨i + 1, by omega⟩) (gk3 (j := 0) [] (Bs.pc _) ?_ ?_ ?_ ?_ ?_ ?_ ?_) ?_; (iterate 7 (focus (first | rfl | (simp [LPXB, *, SIMB, hdN, injB, a1t, a1x, a2w]; done)))); (focus (dsimp only; omega)))
  | with_reducible first | refine a0p (id := 24) 10 a0k (by kernel_rfl) fun K hK => ?_ | refine a0p (id := 21) 12 a0k (by kernel_rfl) fun K hK => ?_ | refine stp ?_
  | (with_reducible refine stpK ?_; intro K hK)
  | (with_reducible refine stpC ?_; intro T E hT hE)
  | (with_reducible refine stp2 ?_ ?_ <;> intro h)
  | with_reducible first | refine a0q rfl ?_ | refine a1n hS (by simp [nls, nl, *, NLXB]) ?_ | refine hpc hS (by simp [nls, nl, *, NLXB]) ?_ | refine a0t rfl (Nat.le_of_ble_eq_true rfl) a0s ?_ | refine a0t rfl (Nat.le_of_ble_eq_true rfl) (a0r (by simp [HPXB, a4y, ext, upd, *])) ?_ | refine a1v (by decide) (by kernel_rfl) ?_ | refine a0x (by decide) ?_
  | (with_reducible refine Kont.go hK ?_; clear hK K)
  | ((with_reducible first | refine KT.go hT ?_ | refine KT.go hE ?_); clear hT hE T E)
  | simp [*, -List.all_flatten, -List.all_eq_true, DEFB, LENB, b2i, c7d, asR, a1t, a9f, a6k, a1x, a2w, b2g, b6l, a1u, a2e, a4y, List.take_length]
theorem d0o {p : Pg} {x : Pts} (hx : PtB 2000000 x) (hS : PC Try.prog Gl 18 [.agg [.list 4 (fns p.funcs), .list 2 (gbs p.globals), .list 1 (lays p.layouts), .int .i64 p.main], .agg [.list 2 (sits x.sites), .list 1 (lls x.regs), .list 1 (lays x.cells)]] (.bool true)) (hp : VOk p) (hF : Gv.Form p x) : PC Try.prog Gl 11 [.agg [.list 4 (fns p.funcs), .list 2 (gbs p.globals), .list 1 (lays p.layouts), .int .i64 p.main], .agg [.list 2 (sits x.sites), .list 1 (lls x.regs), .list 1 (lays x.cells)]] (.list 1 (a3t (rchL p x))) := by
 have hxs := hx.s
 have hs := hF.sites
 have hsv := a2b hp
 have hnf := hp.nf
 have hrn := hF.rn
 have hcn := hF.cn
 have hsl : x.sites.length = (a0d p).length := by rw [hs]
 rw [hs] at hS
 have hs1 : ((a0d p).length : Int) <= 4611686018427387904 := by omega
 have hs2 : ((a0d p).length : Int) <= 281474976710656 := by omega
 refine a3w (res := [.tmp 4]) 14 121 [24, 23, 36, 35, 34, 44, 43, 42, 49, 59, 58] (fun d ix => 0 :: d :: ix) (fn := Try.f11) (by kernel_rfl) (by rfl) (by rfl) (by rfl) (by simp) (by decide) ?_
 repeat' first
  | ((with_reducible refine a1o ?_); refine a2h (σ := {f : Nat // f <= p.funcs.length}) (fun y => [(7, .sl [0, 1000] 1 0 (rtP p x y.1).length), (8, .undef), (9, .undef), (11, .undef), (12, .undef)]) [35, 34] (fun y => [(36, .int .i64 (y.1 : Int))]) [[0, 9], [0, 11], [0, 32]] (fun y => [([0, 1000], .cells 3 1 (ints (rtP p x y.1)))]) (fun y => noH) (fun y => p.funcs.length - y.1) ⟨0, by simp⟩ (gk3 (j := 0) [] (Bs.pc _) ?_ ?_ ?_ ?_ ?_ ?_ ?_) ?_; (iterate 7 (focus (first | rfl | (simp [LPXB, *, SIMB, hdN, injB, a1t, a1x, a2w, a0f, a0c, a2z, g0k, a2j]; done)))); rintro ⟨f, hf⟩; simp only [lpS, LPXB]; (try dsimp only at hf); rcases a1l hf with hlf | ⟨hlf, he⟩; rotate_left; subst f; rotate_left; have wf := wli hlf (by omega); have hfx : f < x.regs.length := (by omega); have hA := sP_s (x := x) hlf; have hcl : (p.funcs[f]'hlf).code.length <= 1000 := (a7r (hp.head _ (List.getElem_mem hlf))).2.2; have hB0 := sQ_0 p x f (p.funcs[f]'hlf).code; have h64 : (x.regs[f]'hfx).length <= 64 := (by have h1 := hF.fn f hfx hlf; have h2 := (hp.regs (List.getElem_mem hlf)).r64; omega))
  | ((with_reducible refine a1o ?_); refine a2h (σ := {j : Nat // j <= (p.funcs[f]'hlf).code.length}) (fun y => [(7, .sl [0, 1000] 1 0 (sQ p x f (p.funcs[f]'hlf).code y.1).length), (11, .undef), (12, .undef)]) [43, 42, 36, 35, 34] (fun y => [(44, .int .i64 (y.1 : Int))]) [[0, 11]] (fun y => [([0, 1000], .cells 3 1 (ints (sQ p x f (p.funcs[f]'hlf).code y.1)))]) (fun y => noH) (fun y => (p.funcs[f]'hlf).code.length - y.1) ⟨0, by simp⟩ (gk3 (j := 0) [] (Bs.pc _) ?_ ?_ ?_ ?_ ?_ ?_ ?_) ?_; (iterate 7 (focus (first | rfl | (simp [LPXB, *, SIMB, hdN, injB, a1t, a1x, a2w, a0f, a0c, a2z, hB0]; done)))); rintro ⟨j, hj⟩; simp only [lpS, LPXB]; (try dsimp only at hj); rcases a1l hj with hlj | ⟨hlj, he⟩; rotate_left; subst j; rotate_left; have wj := wli hlj (by omega); have hI := hp.ins _ (List.getElem_mem hlf) _ (List.getElem_mem hlj); have hIa := hI.a; have hbq := e9d hp hF hlf hj; have hk31 : ((p.funcs[f]'hlf).code[j]'hlj).op = 31 -> ∃ bn cn nk : Nat, ((p.funcs[f]'hlf).code[j]'hlj).b = (bn : Int) /\ ((p.funcs[f]'hlf).code[j]'hlj).c = (cn : Int) /\ ∃ hbn : bn < p.funcs.length, (p.funcs[bn]'hbn).params = (nk : Int) /\ nk <= 64 /\ nk = (a5f p.funcs ((p.funcs[f]'hlf).code[j]'hlj).b).toNat /\ cn + nk <= (x.regs[f]'hfx).length := e2h hp hF hlf hlj hfx; by_cases o31 : ((p.funcs[f]'hlf).code[j]'hlj).op = 31; obtain ⟨bn, cn, nk, hbn, hcn, hbl, hpn, hnk, hnk2, hck⟩ := hk31 o31; have hD0 := sK_0 p x f (p.funcs[f]'hlf).code j ((p.funcs[f]'hlf).code[j]'hlj); have hDe := sK_e (p := p) (x := x) (f := f) hlj o31 hnk2; have hDs := sK_s p x f (p.funcs[f]'hlf).code j ((p.funcs[f]'hlf).code[j]'hlj); clear hk31 hnk2; rotate_left; clear hk31; by_cases o32 : ((p.funcs[f]'hlf).code[j]'hlj).op = 32; have hm0 := g0h (p := p) (x := x) (f := f) hlj o32; have hr0 := a4l (r := (rR ((p.funcs[f]'hlf).code[j]'hlj).op).1) hIa (by rw [o32]; decide); obtain ⟨na, hna, hf', ha', hrg⟩ := e1c hF hlf hr0; have hna0 : ¬ (na : Int) < 0 := (by omega); rw [hrg] at hm0; have hrl := a6w (hF.rs f hf' _ (List.getElem_mem ha')); have hz := szB (n := (sQ p x f (p.funcs[f]'hlf).code j).length + ((x.regs[f]'hf')[na]'ha').length) (by omega); have hz2 := sz62 (n := (sQ p x f (p.funcs[f]'hlf).code j).length + ((x.regs[f]'hf')[na]'ha').length) (by omega); have htk := c0l (sQ p x f (p.funcs[f]'hlf).code j) []; rw [List.append_nil] at htk; have hap := a0m (sQ p x f (p.funcs[f]'hlf).code j) ((x.regs[f]'hf')[na]'ha'); rw [hm0] at hap; have hln : (sQ p x f (p.funcs[f]'hlf).code (j + 1)).length = (sQ p x f (p.funcs[f]'hlf).code j).length + ((x.regs[f]'hf')[na]'ha').length := (by rw [<- hm0, List.length_append]); rotate_left; have hm0 := g0g (p := p) (x := x) (f := f) hlj o31 o32; rotate_left)
  | ((with_reducible refine a1o ?_); refine a2h (σ := {k : Nat // k <= nk}) (fun y => [(7, .sl [0, 1000] 1 0 (sK p x f (p.funcs[f]'hlf).code j ((p.funcs[f]'hlf).code[j]'hlj) y.1).length), (12, .undef)]) [58, 49, 44, 43, 42, 36, 35, 34] (fun y => [(59, .int .i64 (y.1 : Int))]) [] (fun y => [([0, 1000], .cells 3 1 (ints (sK p x f (p.funcs[f]'hlf).code j ((p.funcs[f]'hlf).code[j]'hlj) y.1)))]) (fun y => noH) (fun y => nk - y.1) ⟨0, by simp⟩ (gk3 (j := 0) [] (Bs.pc _) ?_ ?_ ?_ ?_ ?_ ?_ ?_) ?_; (iterate 7 (focus (first | rfl | (simp [LPXB, *, SIMB, hdN, injB, a1t, a1x, a2w, a0f, a0c, a2z, hD0]; done)))); rintro ⟨k, hk⟩; simp only [lpS, LPXB]; (try dsimp only at hk); rcases a1l hk with hlk | ⟨hlk, he⟩; rotate_left; subst k; rotate_left; have wk := wli hlk (by omega); have hck2 : cn + k < (x.regs[f]'hfx).length := (by omega); have wck : IntKind.wrap .i64 ((cn : Int) + (k : Int)) = (cn : Int) + (k : Int) := (by rw [IntKind.wrap_i64]; omega); have y1 : (0 : Int) <= (cn : Int) + (k : Int) := (by omega); have y2 : ((cn : Int) + (k : Int)).toNat = cn + k := (by omega); have hrk : rg x f (((p.funcs[f]'hlf).code[j]'hlj).c + (k : Int)) = (x.regs[f]'hfx)[cn + k]'hck2 := (by rw [hcn]; exact c8z (x := x) (f := f) (a := cn + k) hfx hck2); have hDk := hDs k; rw [hrk] at hDk; have hbk := g0i hp hF hlf hj ((p.funcs[f]'hlf).code[j]'hlj) (k := k) (by omega); have hrl := a6w (hF.rs f hfx _ (List.getElem_mem hck2)); have hz := szB (n := (sK p x f (p.funcs[f]'hlf).code j ((p.funcs[f]'hlf).code[j]'hlj) k).length + ((x.regs[f]'hfx)[cn + k]'hck2).length) (by omega); have hz2 := sz62 (n := (sK p x f (p.funcs[f]'hlf).code j ((p.funcs[f]'hlf).code[j]'hlj) k).length + ((x.regs[f]'hfx)[cn + k]'hck2).length) (by omega); have htk := c0l (sK p x f (p.funcs[f]'hlf).code j ((p.funcs[f]'hlf).code[j]'hlj) k) []; rw [List.append_nil] at htk; have hap := a0m (sK p x f (p.funcs[f]'hlf).code j ((p.funcs[f]'hlf).code[j]'hlj) k) ((x.regs[f]'hfx)[cn + k]'hck2); rw [<- hDk] at hap; have hln : (sK p x f (p.funcs[f]'hlf).code j ((p.funcs[f]'hlf).code[j]'hlj) (k + 1)).length = (sK p x f (p.funcs[f]'hlf).code j ((p.funcs[f]'hlf).code[j]'hlj) k).length + ((x.regs[f]'hfx)[cn + k]'hck2).length := (by rw [hDk, List.length_append]); clear hDk hrk hDs)
  | ((with_reducible refine a1j ?_); refine a1w (⟨k + 1, by omega⟩) (gk3 (j := 0) [([0, 1000], some [0, 74])] (Bs.pc _) ?_ ?_ ?_ ?_ ?_ ?_ ?_) ?_; (iterate 7 (focus (first | rfl | (simp [LPXB, *, SIMB, hdN, injB, a1t, a1x, a2w, a0f, a0c, a2z]; done)))); (focus (dsimp only; omega)))
  | ((with_reducible refine a1j ?_); refine a1w (⟨j + 1, by omega⟩) (gk3 (j := 0) [([0, 1000], some [0, 88])] (Bs.pc _) ?_ ?_ ?_ ?_ ?_ ?_ ?_) ?_; (iterate 7 (focus (first | rfl | (simp [LPXB, *, SIMB, hdN, injB, a1t, a1x, a2w, a0f, a0c, a2z]; done)))); (focus (dsimp only; omega)))
  | ((with_reducible refine a1j ?_); refine a1w (⟨j + 1, by omega⟩) (gk3 (j := 0) [] (Bs.pc _) ?_ ?_ ?_ ?_ ?_ ?_ ?_) ?_; (iterate 7 (focus (first | rfl | (simp [LPXB, *, SIMB, hdN, injB, a1t, a1x, a2w, a0f, a0c, a2z]; done)))); (focus (dsimp only; omega)))
  | ((with_reducible refine a1j ?_); refine a1w (⟨f + 1, by omega⟩) (gk3 (j := 0) [] (Bs.pc _) ?_ ?_ ?_ ?_ ?_ ?_ ?_) ?_; (iterate 7 (focus (first | rfl | (simp [LPXB, *, SIMB, hdN, injB, a1t, a1x, a2w, a0f, a0c, a2z]; done)))); (focus (dsimp only; omega)))
  | ((with_reducible refine a1o ?_); refine a2h (σ := {y : List Bool × List Int × List Int // Dfs p x y.1 y.2.1}) (fun y => [(7, .sl [0, 1000] 1 0 y.1.2.1.length), (13, .undef)]) [] (fun y => []) [] (fun y => [([0, 17], .cells 4 1 (a3t y.1.1)), ([0, 1000], .cells 3 1 (ints (y.1.2.1 ++ y.1.2.2)))]) (fun y => noH) (fun y => wt x y.1.1 + y.1.2.1.length) ⟨(List.replicate (a0d p).length false, rtA p x, []), Dfs.init p x⟩ (gk3 (j := 0) [] (Bs.pc _) ?_ ?_ ?_ ?_ ?_ ?_ ?_) ?_; (iterate 7 (focus (first | rfl | (simp [LPXB, *, SIMB, hdN, injB, a1t, a1x, a2w, a0f, a0c, a2z, e9g]; done)))); rintro ⟨⟨l, st, r⟩, hd⟩; simp only [lpS, LPXB]; (try dsimp only at hd); have hll := hd.len; have hsb := f5a hp hF hd; rcases b7g st with rfl | ⟨st, o, rfl⟩; have hfin := hd.fin hF; subst hfin; rotate_left; have hob := (hd.st o (by simp)).bd hF; obtain ⟨no, rfl⟩ : ∃ no : Nat, o = (no : Int) := ⟨o.toNat, by omega⟩; have hnl : no < l.length := (by omega); have hnc : no < x.cells.length := (by omega); have hgc : (lays x.cells)[no]? = some [.list 1 (ints (x.cells[no]'hnc))] := (by simp [lays, a2i, hnc]); have hga := c0k st (no : Int) r; have htk := c0l st ([(no : Int)] ++ r); rw [<- List.append_assoc] at htk; rw [List.length_append, List.length_singleton] at hsb; have hlst : (st ++ [(no : Int)]).length = st.length + 1 := (by simp); have w1 : IntKind.wrap .i64 (st.length : Int) = (st.length : Int) := (by rw [IntKind.wrap_i64]; omega); have v1 : (st.length : Int) < (st.length : Int) + 1 := (by omega); have v2 : st.length < st.length + 1 := (by omega); have v3 : st.length <= st.length + 1 := (by omega); have hgb : (a3t l)[no]? = some [.bool (l[no]'hnl)] := a5r hnl; have hbm := b1q l no true hnl; have hrl := a6w (hF.cs _ (List.getElem_mem hnc)); have hz := szB (n := st.length + (x.cells[no]'hnc).length) (by omega); have hz2 := sz62 (n := st.length + (x.cells[no]'hnc).length) (by omega); cases hb : l[no]'hnl; rw [hb] at hgb; have hd2 := hd.popU hF hnl (by rw [hb]; decide); have hmu := e8m (x := x) hnl (by rw [hb]; decide); rw [c9t hnc] at hd2 hmu; have hap := a0m st (x.cells[no]'hnc); rotate_left; rw [hb] at hgb; have hd2 := hd.popM (o := (no : Int)) ((b2p hnl).2 hb); rotate_left)
  | ((with_reducible refine a1j ?_); refine a1w (⟨(mk1 l (no : Int), st ++ x.cells[no]'hnc, []), hd2⟩) (gk3 (j := 0) [([0, 1000], some [0, 119])] (Bs.pc _) ?_ ?_ ?_ ?_ ?_ ?_ ?_) ?_; (iterate 7 (focus (first | rfl | (simp [LPXB, *, SIMB, hdN, injB, a1t, a1x, a2w, a0f, a0c, a2z, mk1, List.length_append]; done)))); (focus (dsimp only; rw [List.length_append, hlst]; omega)))
  | ((with_reducible refine a1j ?_); refine a1w (⟨(l, st, [(no : Int)] ++ r), hd2⟩) (gk3 (j := 0) [] (Bs.pc _) ?_ ?_ ?_ ?_ ?_ ?_ ?_) ?_; (iterate 7 (focus (first | rfl | (simp [LPXB, *, SIMB, hdN, injB, a1t, a1x, a2w, a0f, a0c, a2z]; done)))); (focus (dsimp only; rw [hlst]; omega)))
  | with_reducible first | refine a0p (id := 24) 10 a0k (by kernel_rfl) fun K hK => ?_ | refine a0p (id := 21) 12 a0k (by kernel_rfl) fun K hK => ?_ | refine stp ?_
  | (with_reducible refine stpK ?_; intro K hK)
  | (with_reducible refine stpC ?_; intro T E hT hE)
  | (with_reducible refine stp2 ?_ ?_ <;> intro h)
  | with_reducible first | refine a0q rfl ?_ | refine a1n hS (by simp [nls, nl, *, NLXB]) ?_ | refine hpc hS (by simp [nls, nl, *, NLXB]) ?_ | refine a0t rfl (Nat.le_of_ble_eq_true rfl) a0s ?_ | refine a0t rfl (Nat.le_of_ble_eq_true rfl) (a0r (by simp [HPXB, a4y, ext, upd, *])) ?_ | refine a1v (by decide) (by kernel_rfl) ?_ | refine a0x (by decide) ?_
  | (with_reducible refine Kont.go hK ?_; clear hK K)
  | ((with_reducible first | refine KT.go hT ?_ | refine KT.go hE ?_); clear hT hE T E)
  | simp [*, -List.all_flatten, -List.all_eq_true, DEFB, LENB, b2i, c7d, asR, a1t, a9f, a6k, a1x, a2w, b2g, b6l, a1u, a2e, a4y, List.take_length, b0e, a2z, a4e, rmvs, rmv, a3u]
 all_goals first
  | (rw [List.take_of_length_le (by rw [b0e]; exact Nat.le_refl _)]; done)
  | trace_state
end Go.He
