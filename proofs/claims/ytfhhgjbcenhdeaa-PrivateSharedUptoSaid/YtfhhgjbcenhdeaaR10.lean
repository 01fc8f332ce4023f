/- Parts of the proof. -/
import Derived.Test.YtfhhgjbcenhdeaaR9
set_option linter.unusedSimpArgs false
set_option linter.unusedVariables false
namespace Go.He
open Go Go.FM Go.Gv Go.Proofs
set_option maxRecDepth 100000
set_option maxHeartbeats 40000000
theorem d1p {n : Int} (h : ¬ (1 <= n /\ n <= 52)) : rlR n = ⟨⟨[]⟩⟩ := by
 unfold rlR; split <;> first | (exfalso; omega) | rfl
theorem g1f {n : Int} (h : ¬ (1 <= n /\ n <= 52)) (k : Int) (h1 : 1 <= k) (h2 : k <= 52) : (n = k) = False := by simp only [eq_iff_iff, iff_false]; omega
theorem c130 : PC Try.prog Gl 73 [] (.agg [.str ⟨⟨[]⟩⟩, .str ⟨⟨[]⟩⟩, .str ⟨⟨[99, 111, 110, 115, 116]⟩⟩, .str ⟨⟨[100, 105, 45]⟩⟩, .str ⟨⟨[110, 105, 108]⟩⟩, .str ⟨⟨[100, 45, 45]⟩⟩, .str ⟨⟨[109, 111, 118, 101]⟩⟩, .str ⟨⟨[100, 115, 45]⟩⟩, .str ⟨⟨[97, 100, 100]⟩⟩, .str ⟨⟨[100, 115, 115]⟩⟩, .str ⟨⟨[115, 117, 98]⟩⟩, .str ⟨⟨[100, 115, 115]⟩⟩, .str ⟨⟨[109, 117, 108]⟩⟩, .str ⟨⟨[100, 115, 115]⟩⟩, .str ⟨⟨[100, 105, 118]⟩⟩, .str ⟨⟨[100, 115, 115]⟩⟩, .str ⟨⟨[114, 101, 109]⟩⟩, .str ⟨⟨[100, 115, 115]⟩⟩, .str ⟨⟨[110, 101, 103]⟩⟩, .str ⟨⟨[100, 115, 45]⟩⟩, .str ⟨⟨[110, 111, 116]⟩⟩, .str ⟨⟨[100, 115, 45]⟩⟩, .str ⟨⟨[101, 113]⟩⟩, .str ⟨⟨[100, 115, 115]⟩⟩, .str ⟨⟨[110, 101]⟩⟩, .str ⟨⟨[100, 115, 115]⟩⟩, .str ⟨⟨[108, 116]⟩⟩, .str ⟨⟨[100, 115, 115]⟩⟩, .str ⟨⟨[108, 101]⟩⟩, .str ⟨⟨[100, 115, 115]⟩⟩, .str ⟨⟨[108, 101, 110]⟩⟩, .str ⟨⟨[100, 115, 45]⟩⟩, .str ⟨⟨[106, 117, 109, 112]⟩⟩, .str ⟨⟨[45, 45, 116]⟩⟩, .str ⟨⟨[106, 117, 109, 112, 122]⟩⟩, .str ⟨⟨[115, 45, 116]⟩⟩, .str ⟨⟨[103, 108, 111, 98, 97, 108]⟩⟩, .str ⟨⟨[100, 103, 45]⟩⟩, .str ⟨⟨[102, 105, 101, 108, 100]⟩⟩, .str ⟨⟨[100, 115, 110]⟩⟩, .str ⟨⟨[105, 110, 100, 101, 120]⟩⟩, .str ⟨⟨[100, 115, 115]⟩⟩, .str ⟨⟨[110, 101, 119]⟩⟩, .str ⟨⟨[100, 108, 45]⟩⟩, .str ⟨⟨[115, 108, 105, 99, 101]⟩⟩, .str ⟨⟨[100, 115, 45]⟩⟩, .str ⟨⟨[99, 104, 97, 110]⟩⟩, .str ⟨⟨[100, 115, 45]⟩⟩, .str ⟨⟨[99, 108, 111, 115, 117, 114, 101]⟩⟩, .str ⟨⟨[100, 99, 107]⟩⟩, .str ⟨⟨[99, 97, 112]⟩⟩, .str ⟨⟨[100, 112, 45]⟩⟩, .str ⟨⟨[99, 97, 108, 108]⟩⟩, .str ⟨⟨[68, 102, 97]⟩⟩, .str ⟨⟨[99, 97, 108, 108, 99]⟩⟩, .str ⟨⟨[115, 45, 45]⟩⟩, .str ⟨⟨[100, 101, 102, 101, 114]⟩⟩, .str ⟨⟨[45, 102, 97]⟩⟩, .str ⟨⟨[100, 101, 102, 101, 114, 99]⟩⟩, .str ⟨⟨[115, 45, 45]⟩⟩, .str ⟨⟨[114, 101, 116, 117, 114, 110]⟩⟩, .str ⟨⟨[83, 45, 45]⟩⟩, .str ⟨⟨[103, 111]⟩⟩, .str ⟨⟨[45, 102, 97]⟩⟩, .str ⟨⟨[103, 111, 99]⟩⟩, .str ⟨⟨[115, 45, 45]⟩⟩, .str ⟨⟨[108, 111, 97, 100]⟩⟩, .str ⟨⟨[100, 115, 45]⟩⟩, .str ⟨⟨[115, 116, 111, 114, 101]⟩⟩, .str ⟨⟨[115, 115, 45]⟩⟩, .str ⟨⟨[97, 108, 111, 97, 100]⟩⟩, .str ⟨⟨[100, 115, 45]⟩⟩, .str ⟨⟨[97, 115, 116, 111, 114, 101]⟩⟩, .str ⟨⟨[115, 115, 45]⟩⟩, .str ⟨⟨[97, 97, 100, 100]⟩⟩, .str ⟨⟨[100, 115, 115]⟩⟩, .str ⟨⟨[97, 99, 97, 115]⟩⟩, .str ⟨⟨[100, 115, 115]⟩⟩, .str ⟨⟨[108, 111, 99, 107]⟩⟩, .str ⟨⟨[115, 45, 45]⟩⟩, .str ⟨⟨[117, 110, 108, 111, 99, 107]⟩⟩, .str ⟨⟨[115, 45, 45]⟩⟩, .str ⟨⟨[114, 108, 111, 99, 107]⟩⟩, .str ⟨⟨[115, 45, 45]⟩⟩, .str ⟨⟨[114, 117, 110, 108, 111, 99, 107]⟩⟩, .str ⟨⟨[115, 45, 45]⟩⟩, .str ⟨⟨[103, 114, 111, 117, 112]⟩⟩, .str ⟨⟨[115, 115, 45]⟩⟩, .str ⟨⟨[119, 97, 105, 116]⟩⟩, .str ⟨⟨[115, 45, 45]⟩⟩, .str ⟨⟨[111, 110, 99, 101]⟩⟩, .str ⟨⟨[115, 45, 116]⟩⟩, .str ⟨⟨[111, 110, 99, 101, 101, 110, 100]⟩⟩, .str ⟨⟨[115, 45, 45]⟩⟩, .str ⟨⟨[115, 101, 110, 100]⟩⟩, .str ⟨⟨[115, 115, 45]⟩⟩, .str ⟨⟨[114, 101, 99, 118]⟩⟩, .str ⟨⟨[68, 115, 68]⟩⟩, .str ⟨⟨[99, 108, 111, 115, 101]⟩⟩, .str ⟨⟨[115, 45, 45]⟩⟩, .str ⟨⟨[115, 101, 108, 101, 99, 116]⟩⟩, .str ⟨⟨[100, 120, 98]⟩⟩, .str ⟨⟨[99, 97, 115, 101]⟩⟩, .str ⟨⟨[115, 98, 118]⟩⟩, .str ⟨⟨[112, 114, 105, 110, 116]⟩⟩, .str ⟨⟨[115, 45, 45]⟩⟩]) := by
 refine b0o (res := [.cell 0 112]) 1 54 [] (fun d ix => d :: ix) (fn := Try.f73) (by kernel_rfl) (by rfl) (by rfl) (by rfl) (by simp) (by decide) ?_
 repeat' first
  | with_reducible refine stp ?_
  | (with_reducible refine stpK ?_; intro K hK)
  | (with_reducible refine stpC ?_; intro T E hT hE)
  | (with_reducible refine stp2 ?_ ?_ <;> intro h)
  | with_reducible first | refine a0q rfl ?_ | refine a0t rfl (by decide) a0s ?_ | refine a0t rfl (by decide) (a0r (by simp [upd, noH, ext, a5v, a4o, *])) ?_ | refine a1v (by decide) (by kernel_rfl) ?_ | refine a0x (by decide) ?_
  | (with_reducible refine Kont.go hK ?_; clear hK K)
  | ((with_reducible first | refine KT.go hT ?_ | refine KT.go hE ?_); clear hT hE T E)
  | simp [*, -List.all_flatten, -List.all_eq_true, DEFO]
theorem e2i (n : Int) (h : 1 <= n /\ n <= 52) : PC Try.prog Gl 66 [.int .i64 n] (.tup [.agg [.str (wdI n), .str (rlI n)], .bool true]) := by
 rcases Gv.c0e h with rfl | rfl | rfl | rfl | rfl | rfl | rfl | rfl | rfl | rfl | rfl | rfl | rfl | rfl | rfl | rfl | rfl | rfl | rfl | rfl | rfl | rfl | rfl | rfl | rfl | rfl | rfl | rfl | rfl | rfl | rfl | rfl | rfl | rfl | rfl | rfl | rfl | rfl | rfl | rfl | rfl | rfl | rfl | rfl | rfl | rfl | rfl | rfl | rfl | rfl | rfl | rfl
 all_goals
  refine b0o (res := [.cell 2 103, .tmp 3]) 5 16 [] (fun d ix => d :: ix) (fn := Try.f66) (by kernel_rfl) (by rfl) (by rfl) (by rfl) (by simp) (by decide) ?_
  repeat' first
   | with_reducible refine stp ?_
   | (with_reducible refine stpK ?_; intro K hK)
   | (with_reducible refine stpC ?_; intro T E hT hE)
   | (with_reducible refine stp2 ?_ ?_ <;> intro h)
   | with_reducible first | refine a0q rfl ?_ | refine a1n c130 (by simp [nls, nl]) ?_ | refine hpc c130 (by simp [nls, nl]) ?_ | refine a0t rfl (by decide) a0s ?_ | refine a0t rfl (by decide) (a0r (by simp [upd, noH, ext, a5v, a4o, *])) ?_ | refine a1v (by decide) (by kernel_rfl) ?_ | refine a0x (by decide) ?_
   | (with_reducible refine Kont.go hK ?_; clear hK K)
   | ((with_reducible first | refine KT.go hT ?_ | refine KT.go hE ?_); clear hT hE T E)
   | simp [*, -List.all_flatten, -List.all_eq_true, DEFO, FV.cellV, wdI, rlI]
theorem d4x (n : Int) (h : ¬ (1 <= n /\ n <= 52)) : PC Try.prog Gl 66 [.int .i64 n] (.tup [.agg [.str ⟨⟨[]⟩⟩, .str ⟨⟨[]⟩⟩], .bool false]) := by
 have h1 : n <= 0 \/ 53 <= n := by omega
 have ne := g1f h
 refine b0o (res := [.cell 2 103, .tmp 3]) 5 16 [] (fun d ix => d :: ix) (fn := Try.f66) (by kernel_rfl) (by rfl) (by rfl) (by rfl) (by simp) (by decide) ?_
 repeat' first
  | with_reducible refine stp ?_
  | (with_reducible refine stpK ?_; intro K hK)
  | (with_reducible refine stpC ?_; intro T E hT hE)
  | (with_reducible refine stp2 ?_ ?_ <;> intro h)
  | with_reducible first | refine a0q rfl ?_ | refine a1n c130 (by simp [nls, nl, *, a0b, a0e, a0i, a0a, a0c]) ?_ | refine hpc c130 (by simp [nls, nl, *, a0b, a0e, a0i, a0a, a0c]) ?_ | refine a0t rfl (by decide) a0s ?_ | refine a0t rfl (by decide) (a0r (by simp [upd, noH, ext, a5v, a4o, *])) ?_ | refine a1v (by decide) (by kernel_rfl) ?_ | refine a0x (by decide) ?_
  | (with_reducible refine Kont.go hK ?_; clear hK K)
  | ((with_reducible first | refine KT.go hT ?_ | refine KT.go hE ?_); clear hT hE T E)
  | simp [*, -List.all_flatten, -List.all_eq_true, DEFO, FV.cellV]
 all_goals (first | (exfalso; omega) | trace_state)
end Go.He
