/- Parts of the proof. -/
import Derived.Test.YtfhhgjbcenhdeaaGreatQ46
set_option linter.unusedSimpArgs false
set_option linter.unusedVariables false
namespace Go.Ge
open Go Go.FM Go.Gv Go.Proofs
set_option maxRecDepth 100000
set_option maxHeartbeats 40000000
theorem arA {p : Pg} (hb : PgB p) {x : Pts} (hx : PtB 2000000 x) {f pc : Nat} (hf : f < p.funcs.length) (hcd : pc < p.funcs[f].code.length) (hs : a2y p x = true) (q : ((p.funcs[f]).code[pc]).op = 34 \/ ((p.funcs[f]).code[pc]).op = 36 \/ ((p.funcs[f]).code[pc]).op = 39 \/ ((p.funcs[f]).code[pc]).op = 40 \/ ((p.funcs[f]).code[pc]).op = 41 \/ ((p.funcs[f]).code[pc]).op = 42 \/ ((p.funcs[f]).code[pc]).op = 43 \/ ((p.funcs[f]).code[pc]).op = 44 \/ ((p.funcs[f]).code[pc]).op = 45 \/ ((p.funcs[f]).code[pc]).op = 46 \/ ((p.funcs[f]).code[pc]).op = 47 \/ ((p.funcs[f]).code[pc]).op = 49 \/ ((p.funcs[f]).code[pc]).op = 51) : PC Tryz.prog Gl 19 [.agg [.list 4 (fns p.funcs), .list 2 (gbs p.globals), .list 1 (lays p.layouts), .int .i64 p.main], .agg [.list 2 (sits x.sites), .list 1 (lls x.regs), .list 1 (lays x.cells)], .agg [.int .i64 (f : Int), .int .i64 (pc : Int)]] (.list 1 (ints (accP p x ((f : Int), (pc : Int))))) := by
 have i1 : ¬ (f : Int) < 0 := by omega
 have i2 : ¬ (pc : Int) < 0 := by omega
 have i3 : ¬ p.funcs.length <= f := by omega
 have i4 : ¬ p.funcs[f].code.length <= pc := by omega
 have hF := a5o hs
 have hv := a4b hs
 have hp := vOk hv
 have hn64 := hp.nf
 have hfx : f < x.regs.length := by rw [hF.rn]; exact hf
 have hI := hp.ins _ (List.getElem_mem hf) _ (List.getElem_mem hcd)
 have hIa := hI.a
 have hIb := hI.b
 have hin := b0w hs hf hcd
 generalize hX : (p.funcs[f]'hf).code[pc]'hcd = X at hin hI hIa hIb q
 clear hI
 rcases q with q | q | q | q | q | q | q | q | q | q | q | q | q
 all_goals
  have hr0 := a4d (r := (rR X.op).1) hIa (by rw [q]; decide)
  obtain ⟨na, hna, hf', ha', hrg⟩ := b8t hF hf hr0
  have hl1 := hx.rs _ (List.getElem_mem hf') _ (List.getElem_mem ha')
  have hna0 : ¬ (na : Int) < 0 := by omega
  have hcl := b9w (l := (x.regs[f]'hf')[na]'ha') (by omega)
  have hz := szn (n := ((x.regs[f]'hf')[na]'ha').length) (k := 8) (by omega) (by decide)
  have hz2 : ((x.regs[f]'hf')[na]'ha').length <= 4611686018427387904 := by omega
  have hres : accP p x ((f : Int), (pc : Int)) = (x.regs[f]'hf')[na]'ha' := by rw [hin]; simp [accI, accA, accB, q, hrg]
  clear hin
  refine a3d (res := [.tmp 6]) 12 126 [66] (fun d ix => 0 :: d :: ix) (fn := Tryz.f19) (by kernel_rfl) (by rfl) (by rfl) (by rfl) (by simp) (by decide) ?_
  repeat' first
   | with_reducible first | refine a0u (id := 1) 35 a0m (by kernel_rfl) fun K hK => ?_ | refine stp ?_
   | (with_reducible refine stpK ?_; intro K hK)
   | (with_reducible refine stpC ?_; intro T E hT hE)
   | (with_reducible refine stp2 ?_ ?_ <;> intro h)
   | with_reducible first | refine a0p rfl ?_ | refine a1h (a4l hb hx) (by simp [nls, nl, *, NLXB]) ?_ | refine hpc (a4l hb hx) (by simp [nls, nl, *, NLXB]) ?_ | refine a1r rfl (Nat.le_of_ble_eq_true rfl) a0r ?_ | refine a1r rfl (Nat.le_of_ble_eq_true rfl) (a0q (by simp [HPXB, ext, upd, *])) ?_ | refine a1s (by decide) (by kernel_rfl) ?_ | refine a0x (by decide) ?_
   | (with_reducible refine Kont.go hK ?_; clear hK K)
   | ((with_reducible first | refine KT.go hT ?_ | refine KT.go hE ?_); clear hT hE T E)
   | simp [*, -List.all_flatten, -List.all_eq_true, DEFB, LENB, asR, a0w, a2t, List.take_length, a3e, rmvs, rmv, a3g]
end Go.Ge
