/- Part. -/
import Derived.Test.YtfhhgjbcenhdeaaGreatDoorS14
set_option linter.all false
set_option maxRecDepth 100000
set_option maxHeartbeats 0
namespace Go.Je
open Go Go.FM Go.Gv Go.Proofs
theorem gst (p : Pg) {i : Nat} (h : i < p.gl.length) : strs ((p.gl.map Gb.name).take (i + 1)) = strs ((p.gl.map Gb.name).take i) ++ [[.str p.gl[i].name]] := by
 rw [A0y, A5n zl, a3o]; simp [strs, b8x]
theorem fst' (p : Pg) {i : Nat} (h : i < p.fu.length) : strs ((p.fu.map FnD.name).take (i + 1)) = strs ((p.fu.map FnD.name).take i) ++ [[.str p.fu[i].name]] := by
 rw [A0y, A5n zl, a3o]; simp [strs, b8x]
theorem c19 (p : Pg) (hf : p.fu.length <= 2000000) (hg : p.gl.length <= 2000000) (hl : p.la.length <= 2000000) (hb : ∀ x ∈ p.la, x.length <= 2000000) (hfc : ∀ x ∈ p.fu, x.code.length <= 2000000) : Pq 39 [PA p] (.bool (a5v p)) := by
 have w1 := wl p.fu.length ya
 rcases c6g p with ⟨h1, hh⟩ | ⟨h1, h2, hh⟩ | ⟨h1, h2, h3, hh⟩ | ⟨h1, h2, h3, h4, hh⟩ | ⟨h1, h2, h3, ⟨hm, h5⟩, hz, h6, hh⟩ | ⟨h1, h2, h3, ⟨hm, h5⟩, hz, h6, hh⟩
 all_goals
  refine zw Tryz.f39 [.tmp 2] 12 103 [49, 48, 47, 64, 63, 62, 81, 80, 79] ?_
  repeat' first
   | (refine yi ?_; refine a5f (fun y : {i : Nat // i <= p.la.length /\ vI0 p i = a5v p} => (⟨[PA p, .ptr [1] 4 0 0, .bool false, .undef, .undef, .undef, .undef, .undef, .undef, .undef, .undef, .undef], [(47, .list 1 (lays p.la)), (48, .int .i64 (p.la.length : Int)), (49, .int .i64 (y.1 : Int))], hpL [([1], .cells 26 4 [[.list 4 (fns p.fu), .list 2 (gbs p.gl), .list 1 (lays p.la), .int .i64 p.main]])], []⟩ : Fs)) (fun y => p.la.length - y.1) ⟨0, by simp, hh⟩ (b4f [] (fun _ h => h) yn z1l z3k z1l) ?_; rintro ⟨i, hi, hk⟩; (try dsimp only at hi hk); have hk2 := hk; rcases a0c hi with hlt | ⟨hlt, rfl⟩; rotate_left; rw [f1w] at hk2; rotate_left; rw [f9a hlt] at hk2; have wi := wli hlt ya; have hle := hb _ (A5p hlt); (by_cases h64 : (64 : Int) < ((p.la[i]'hlt).length : Int)) <;> (cases hka : (p.la[i]'hlt).all a2v))
   | (refine yi ?_; refine a5f (fun y : {i : Nat // i <= p.gl.length /\ vI1 p i = a5v p} => (⟨[PA p, .ptr [1] 4 0 0, .bool false, .undef, .undef, .nils, .sl [1006] 1 0 y.1, .undef, .undef, .undef, .undef, .undef], [(62, .list 2 (gbs p.gl)), (63, .int .i64 (p.gl.length : Int)), (64, .int .i64 (y.1 : Int))], hpL [([1], .cells 26 4 [[.list 4 (fns p.fu), .list 2 (gbs p.gl), .list 1 (lays p.la), .int .i64 p.main]]), ([1006], .cells 9 1 (strs ((p.gl.map Gb.name).take y.1)))], []⟩ : Fs)) (fun y => p.gl.length - y.1) ⟨0, by simp, hk2⟩ (b4f [([1006], none)] (fun _ h => h) yn z1l z3k z1l) ?_; rintro ⟨i, hi, hk⟩; (try dsimp only at hi hk); have hk3 := hk; rcases a0c hi with hlt | ⟨hlt, rfl⟩; rotate_left; rw [f1v] at hk3; rotate_left; rw [f8z hlt] at hk3; have wi := wli hlt ya; have hz : (i + 1 + (i + 1) / 4 + 192) * 16 <= 140737488355328 := ya; have hz2 : i <= 4611686018427387903 := ya; cases hka : a2v (p.gl[i]'hlt).kind)
   | (refine yi ?_; refine a5f (fun y : {i : Nat // i <= p.fu.length /\ vI2 p i = a5v p} => (⟨[PA p, .ptr [1] 4 0 0, .bool false, .undef, .undef, .sl [1005] 1 0 y.1, .sl [1006] 1 0 p.gl.length, .undef, .undef, .undef, .undef, .undef], [(79, .list 4 (fns p.fu)), (80, .int .i64 (p.fu.length : Int)), (81, .int .i64 (y.1 : Int))], hpL [([1], .cells 26 4 [[.list 4 (fns p.fu), .list 2 (gbs p.gl), .list 1 (lays p.la), .int .i64 p.main]]), ([1006], .cells 9 1 (strs (p.gl.map Gb.name))), ([1005], .cells 9 1 (strs ((p.fu.map FnD.name).take y.1)))], []⟩ : Fs)) (fun y => p.fu.length - y.1) ⟨0, by simp, hk3⟩ (b4f [([1005], none)] (fun _ h => h) yn z1l z3k z1l) ?_; rintro ⟨i, hi, hk⟩; (try dsimp only at hi hk); have hk4 := hk; rcases a0c hi with hlt | ⟨hlt, rfl⟩; rotate_left; rw [f1u, d4f] at hk4; (cases hu : uniq ((p.fu.map FnD.name).map (·.data.toList))); rotate_left; rotate_left; rw [f8y hlt] at hk4; have wi := wli hlt ya; have hz : (i + 1 + (i + 1) / 4 + 192) * 16 <= 140737488355328 := ya; have hz2 : i <= 4611686018427387903 := ya; have hcc := hfc _ (A5p hlt); cases hka : fnI p (p.fu[i]'hlt))
   | (refine ye ?_; refine a0b (⟨i + 1, by omega, by rw [<- hk2, d8f h64, hka, A4a]⟩) (b4f [] (fun _ h => h) yn z1l z1l z1l) yf)
   | (refine ye ?_; refine a0b (⟨i + 1, by omega, by rw [<- hk3, hka, A4a]⟩) (b4f [([1006], some [76])] (fun _ h => h) yn z3l z3l z3l) yf)
   | (refine ye ?_; refine a0b (⟨i + 1, by omega, by rw [<- hk4, hka, A4a]⟩) (b4f [([1005], some [95])] (fun _ h => h) yn z3m z3m z3m) yf)
   | with_reducible first | refine c4q (A1 := [.list 1 (strs (p.fu.map FnD.name))]) (A2 := [.list 1 (strs (p.fu.map FnD.name))]) 8 (c36 (p.fu.map FnD.name) yz) ?_ z2f (by simp [sca]) ?_; focus (simp [*, frzs, frz, frzR, nl, b7e, b1m, upd, ext, noH, a3p, a2e, A6a]; done) | refine g2n (A1 := [.list 1 (strs (p.fu.map FnD.name))]) (A2 := [.list 1 (strs (p.fu.map FnD.name))]) 8 (c36 (p.fu.map FnD.name) yz) ?_ z2f (by simp [sca]) ?_; focus (simp [*, frzs, frz, frzR, nl, b7e, b1m, upd, ext, noH, a3p, a2e, A6a]; done) | refine c4q (A1 := [.list 1 (strs (p.gl.map Gb.name))]) (A2 := [.list 1 (strs (p.gl.map Gb.name))]) 8 (c36 (p.gl.map Gb.name) yz) ?_ z2f (by simp [sca]) ?_; focus (simp [*, frzs, frz, frzR, nl, b7e, b1m, upd, ext, noH, a3p, a2e, A6a]; done) | refine g2n (A1 := [.list 1 (strs (p.gl.map Gb.name))]) (A2 := [.list 1 (strs (p.gl.map Gb.name))]) 8 (c36 (p.gl.map Gb.name) yz) ?_ z2f (by simp [sca]) ?_; focus (simp [*, frzs, frz, frzR, nl, b7e, b1m, upd, ext, noH, a3p, a2e, A6a]; done) | refine wd ?_ | refine stpK ?_; intro K hK | refine stpC ?_; intro T E hT hE | refine stp2 ?_ ?_ <;> intro h | refine a1v (c31 _ _ _) yr ?_ | refine hpc (c31 _ _ _) yr ?_ | refine a1v (c32 _ hle) yr ?_ | refine hpc (c32 _ hle) yr ?_ | refine a1v (c34 _) yr ?_ | refine hpc (c34 _) yr ?_ | refine a1v (c35 p _ hcc hf hg hl) yr ?_ | refine hpc (c35 p _ hcc hf hg hl) yr ?_ | refine yg ?_; clear hK K | refine yh ?_; clear hT hE T E
   | simp [*, -List.all_flatten, -List.all_eq_true, DEFO, -Bool.decide_and, -List.map_map, z1c, a0j, Ins.row, FnD.row, Gb.row, a0v, A1w, Gb.row, a3p, a2e, a3o, b0a, A0c]
  all_goals first
   | (simp [hh]; done)
   | (rw [<- hk2, c9v h64]; simp; done)
   | (simp [<- hk2, c9v h64]; done)
   | (simp [<- hk2, d8f h64, hka]; done)
   | (simp [<- hk3, hka]; done)
   | (simp [<- hk4, hka]; done)
   | (rw [<- hk4, hu]; simp only [A4a, A3o]; done)
   | (simp [-List.map_map, <- hk4, hu]; done)
end Go.Je
