/- Parts of the proof. -/
import Derived.Test.YtfhhgjbcenhdeaaR29
set_option linter.unusedSimpArgs false
set_option linter.unusedVariables false
namespace Go.He
open Go Go.FM Go.Gv Go.Proofs
set_option maxRecDepth 100000
set_option maxHeartbeats 40000000
theorem e7h {p : Pg} (hp : VOk p) {m : Bool} {fk : FuncId} (hCT : CT p m fk) (hfk : fnOk Try.prog fk = true) {B : Heap} {Y : Pts} {g : Bool} {f pc : Nat} (hf : f < p.funcs.length) {X : Ins} (hI : InsOk p p.funcs[f] X) (hy : Shp p Y) (hB : BsM p 3 B) (q : X.op = 27 \/ X.op = 29 \/ X.op = 32) : FCr Try.prog Gl 44 [.ptr [81] 8 0 0, .agg [.int .i64 (f : Int), .int .i64 (pc : Int)], .agg X.row, .clo fk [] [.ptr [88] 1 0 0]] (HP [] B (MF p Y g)) (OutT p m B (a3n p f pc X) Y g) := by
 rcases q with q | q | q
 all_goals
  have hsv := a2b hp
  have fB : ∀ r, B (3 :: r) = none := fun r => (hB Y g Y g hy hy).fb 3 r (by decide)
  have y3 := hy.rn
  have y4 := hy.cn
  have hrr := hp.regs (List.getElem_mem hf)
  obtain ⟨y1, y2⟩ := hy.at hf
  obtain ⟨nr, hnr⟩ : ∃ nr : Nat, p.funcs[f].regs = (nr : Int) := ⟨p.funcs[f].regs.toNat, by have := hrr.p0; have := hrr.p1; omega⟩
  rw [hnr, Int.toNat_natCast] at y2
  have hnr64 : nr <= 64 := by have := hrr.r64; omega
  have hIa := hI.a
  have hIb := hI.b
  have hIc := hI.c
  have hi1 : ∀ (L : List (FM.Loc × FO)) (Z : Pts) (h : Bool), inH (HP L B (MF p Z h)) [88] := fun L Z h => a8n
  have hi2 : ∀ (L : List (FM.Loc × FO)) (Z : Pts) (h : Bool), inH (HP L B (MF p Z h)) [81] := fun L Z h => a3p a3r
  have hi3 : ∀ (L : List (FM.Loc × FO)) (Z : Pts) (h : Bool), Shp p Z -> inH (HP L B (MF p Z h)) [83, f] := fun L Z h hZ => a3p (a4g (hZ.at hf).1)
  have ha : isR p.funcs[f] X.a := a4l (r := (rR X.op).1) hIa (by rw [q]; decide)
  obtain ⟨a0, a1⟩ := id ha
  have aN : (X.a).toNat < nr := by omega
  have a2 : X.a < (nr : Int) := by omega
  have haS := hy.rok hf ha
  have hrg : b3f Try.prog (HP (bxs p f pc nr X fk) B (MF p Y g)) [3, 183] 67 (.mp [85, f, X.a.toNat]) = some ([([3, 183], .iter (.mp [85, f, X.a.toNat]) (getS Y (.r f X.a.toNat)).length [] (getS Y (.r f X.a.toNat)).length)], .ptr [3, 183] 0 0 0) := b3n (a7c (p := p) (b := g) haS) (by simp [bxs, a2e, a2d, a2m, a2s, fB])
  simp only [bxs, Ins.row, q] at hrg
  have hi5 : ∀ (L : List (FM.Loc × FO)) (Z : Pts) (h : Bool), Shp p Z -> inH (HP L B (MF p Z h)) [85, f, X.a.toNat] := fun L Z h hZ => c6v (hZ.rok hf ha)
  refine a4f (res := []) 16 210 [27, 63, 62, 183, 192, 191, 190] (fun d ix => 3 :: d :: ix) (fn := Try.f44) (by kernel_rfl) (by rfl) (by rfl) (by rfl) (by simp) (by decide) ?_
  repeat' first
   | ((with_reducible refine a1y (id := 24) fun K hK => ?_); refine a1k 3 ?_)
   | ((with_reducible refine a1y (id := 27) fun K hK => ?_); refine a1k 5 ?_)
   | ((with_reducible refine a1y (id := 31) fun K hK => ?_); refine a1k 5 ?_)
   | ((with_reducible refine a1y (id := 33) fun K hK => ?_); refine a1k 6 ?_)
   | ((with_reducible refine a1y (id := 36) fun K hK => ?_); refine a1k 5 ?_)
   | ((with_reducible refine a1y (id := 39) fun K hK => ?_); refine a1k 5 ?_)
   | ((with_reducible refine a1y (id := 41) fun K hK => ?_); refine a1k 5 ?_)
   | ((with_reducible refine a1y (id := 45) fun K hK => ?_); refine a1k 4 ?_)
   | (with_reducible refine a1z (id := 6) [] 7 a0k (by kernel_rfl) fun K hK => ?_)
   | (with_reducible refine a1z (id := 12) [] 8 a0k (by kernel_rfl) fun K hK => ?_)
   | (with_reducible refine a1z (id := 17) [] 16 a0k (by kernel_rfl) fun K hK => ?_)
   | (with_reducible refine a1z (id := 22) [] 11 a0k (by kernel_rfl) fun K hK => ?_)
   | (with_reducible refine a1z (id := 55) [] 12 a0k (by kernel_rfl) fun K hK => ?_)
   | (with_reducible refine a4v ?_)
   | (with_reducible refine a1y (id := 50) fun K hK => ?_)
   | ((with_reducible refine a1o ?_); refine a2h (σ := {x : (List Nat × Nat) × (Pts × Bool) // LI p m (SL.r f X.a.toNat) (ccC p) Y g x.1.1 x.1.2 x.2.1 x.2.2}) (fun y => [(13, .undef), (15, .undef)]) [183] (fun y => []) [[3, 95]] (fun y => [([3, 183], .iter (.mp [85, f, X.a.toNat]) (getS Y (SL.r f X.a.toNat)).length y.1.1.1 y.1.1.2)]) (fun y => MF p y.1.2.1 y.1.2.2) (fun y => (a0d p).length - y.1.1.1.length) ⟨(([], (getS Y (SL.r f X.a.toNat)).length), (Y, g)), LI.start hy⟩ (gk3i (j := 3) [] (hB _ _ _ _ hy hy) ?_ ?_ ?_ ?_ ?_ ?_ ?_) ?_; (iterate 7 (focus (first | rfl | (simp [LPXB, *, SIMB, hdN, injB, fB, a2e, a1u, a2d, hdN, a1i, a0w, a2g]; done)))); rintro ⟨⟨⟨sn, lst⟩, ⟨Z, u⟩⟩, HL⟩; simp only [lpS, LPXB]; (try dsimp only at HL); have hZ := HL.sh; have hZt := hZ.rok hf ha; obtain ⟨z1, z2⟩ := hZ.at hf; rw [hnr, Int.toNat_natCast] at z2; have z3 := hZ.rn; have z4 := hZ.cn)
   | ((with_reducible refine wlH ?_); refine b9d (l := [3, 183]) (k := [85, f, X.a.toNat]) (since := (getS Y (SL.r f X.a.toNat)).length) (last := lst) (clk := (getS Z (SL.r f X.a.toNat)).length) (seen := sn) (es := ents (getS Z (SL.r f X.a.toNat))) ?_ rfl rfl (Nat.le_of_ble_eq_true rfl) ?_ ?_ ?_ ?_ ?_ ?_; (focus (first | rfl | (simp [a3b]; done))); (focus (first | rfl | (simp [rv, Fs.get, lk]; done))); (focus (simp [HPXB, fB, a2e, a1u, a2d]; done)); (focus (exact a7c hZt)); (focus (exact c4w HL)); rotate_left; (rintro e' he' hn; obtain ⟨i, hi, rfl⟩ := a9d.1 he'; (try dsimp only at hn); have hlen := HL.len hi hn; have hen := b4a (H := HP (bxs p f pc nr X fk ++ [([3, 183], .iter (.mp [85, f, X.a.toNat]) (getS Y (SL.r f X.a.toNat)).length (sn ++ [i]) (getS Z (SL.r f X.a.toNat)).length)]) B (MF p Z u)) (l := [3, 183]) (k := [85, f, X.a.toNat]) (since := (getS Y (SL.r f X.a.toNat)).length) (sn := sn) hi (by simp [bxs, HPXB, fB, a2e, a1u, a2d]) (a7c hZt); simp only [bxs, Ins.row, q, List.cons_append, List.nil_append] at hen; obtain ⟨o0, o1⟩ := (hZ.gets (SL.r f X.a.toNat)).2 _ (List.getElem_mem hi); generalize ho : (getS Z (SL.r f X.a.toNat))[i] = o at hen o0 o1; have hfu := fun (L : List (FM.Loc × FO)) hl hn => c4f (L := L) (g := u) hp hZ hB hl hn o1; have hfb := fun q (hq : q ∈ a4x p Z o) => c0s hp hq; have hfl := c7c (p := p) Z o; generalize hfs : a4x p Z o = fs at hfu hfb hfl; refine b3d ?_); rotate_right; intro hz; refine b3d ?_)
   | ((with_reducible refine cgH ?_); refine a4z rfl (hfu _ ?_ ?_) ?_; (focus rfl); (focus (first | rfl | (simp [ninL, ninO, a3m, nins, nin, a0e, a0i, a0a, a1d, a0c, a0b, a2c, mapO, a2f, a2g, a1i, a0w, hdN, *]; done))))
   | ((with_reducible refine a1o ?_); refine a2h (σ := {x : Nat × (Pts × Bool) // x.1 <= fs.length /\ Shp p x.2.1 /\ TR m (fcC o fs x.1) (fcC o fs x.1) Z u x.2.1 x.2.2}) (fun y => [(15, .undef)]) [191, 190, 183] (fun y => [(192, .int .i64 (y.1.1 : Int))]) [[3, 95]] (fun y => []) (fun y => MF p y.1.2.1 y.1.2.2) (fun y => fs.length - y.1.1) ⟨(0, (Z, u)), Nat.zero_le _, hZ, TR.id (g2e _ _ _)⟩ (gk3i (j := 3) [] (hB _ _ _ _ hy hZ) ?_ ?_ ?_ ?_ ?_ ?_ ?_) ?_; (iterate 7 (focus (first | rfl | (simp [LPXB, *, SIMB, hdN, injB, fB, a2e, a1u, a2d, hdN, a1i, a0w, a2g, a0c, a0f]; done)))); rintro ⟨⟨k, ⟨V, v⟩⟩, hk2, hV, hT3⟩; simp only [lpS, LPXB]; (try dsimp only at hk2 hV hT3); have v3 := hV.rn; have v4 := hV.cn; rcases a1l hk2 with hlk | ⟨hlk, he⟩; rotate_left; subst k; rotate_left; have wk := wli hlk (by have := hp.nf; omega); obtain ⟨g0, g1, g2⟩ := hfb _ (List.getElem_mem hlk); obtain ⟨gi, gr⟩ := reg0 hp g0 g1 g2; obtain ⟨v1, v2⟩ := hV.at gi; obtain ⟨nrg, hnrg⟩ : ∃ nrg : Nat, (p.funcs[(fs[k]'hlk).toNat]'gi).regs = (nrg : Int) := ⟨(p.funcs[(fs[k]'hlk).toNat]'gi).regs.toNat, by have := gr.2; omega⟩; rw [hnrg, Int.toNat_natCast] at v2; have v5 : 0 < nrg := (by have := gr.2; omega); have hto0 := hV.rok gi gr; have hto : (SL.r (fs[k]'hlk).toNat 0).ok V := (by simpa using hto0))
   | (with_reducible refine hfc1 [3, 95] (mapO [o]) (fun H2 _ h0 => d6e o h0) ?_)
   | ((with_reducible refine mdH ?_); refine a3g hfk (fun d hd => ?_) rfl (b5p (.r (fs[k]'hlk).toNat 0) [3, 95] hCT hB (by decide) hV hto (ok1 o0 o1) (by simp [HPXB, fB, a2e, a1u, a2d]) rfl ?_) ?_; (focus (cases hd; exact Nat.le_of_ble_eq_true rfl)); (focus (first | rfl | (simp [ninL, ninO, a3m, nins, nin, a0e, a0i, a0a, a1d, a0c, a0b, a2c, mapO, a2f, a1i, a0w, hdN, *]; done))); (rintro r' H' ⟨rfl, V2, v2_, rfl, hV2, hT4⟩))
   | ((with_reducible refine a1j ?_); refine a1w (⟨(k + 1, (V2, v2_)), by omega, hV2, hT3.step1 hT4 (g2d hlk)⟩) (gk3i (j := 3) [] (hB _ _ _ _ hy hV2) ?_ ?_ ?_ ?_ ?_ ?_ ?_) ?_; (iterate 7 (focus (first | rfl | (simp [LPXB, *, SIMB, hdN, injB, fB, a2e, a1u, a2d, hdN, a1i, a0w, a2g, a0c, a0f]; done)))); (focus (dsimp only; omega)))
   | ((with_reducible refine a1j ?_); obtain HL2 : LI p m (SL.r f X.a.toNat) (ccC p) Y g (sn ++ [i]) (getS Z (SL.r f X.a.toNat)).length V v := HL.step hi hn hV hT3 (fun z hs hc => by rw [ho] at hc; rw [<- hfs]; exact fc_s hp hs hc) (fun hc => by rw [ho]; rw [<- hfs] at hc; exact fc_n hc); ((with_reducible refine a1j ?_); refine a1w (⟨((sn ++ [i], (getS Z (SL.r f X.a.toNat)).length), (V, v)), HL2⟩) (gk3i (j := 3) [] (hB _ _ _ _ hy hV) ?_ ?_ ?_ ?_ ?_ ?_ ?_) ?_; (iterate 7 (focus (first | rfl | (simp [LPXB, *, SIMB, hdN, injB, fB, a2e, a1u, a2d, hdN, a1i, a0w, a2g]; done)))); (focus (dsimp only; simp only [List.length_append, List.length_singleton]; omega))))
   | ((with_reducible refine lfH ?_); refine a7d (j := 3) (hB _ _ _ _ hy hZ) rfl ⟨rfl, Z, u, rfl, hZ, (HL.fin (d2y HL hz)).congr (fun z => by simp [a3n, q, alO, gsr, ccC])⟩ trivial)
   | (with_reducible refine a5n ?_)
   | (with_reducible refine a7z ?_)
   | with_reducible first | refine a0p (id := 1) 9 a0k (by kernel_rfl) fun K hK => ?_ | refine a0p (id := 11) 6 a0k (by kernel_rfl) fun K hK => ?_ | refine stp ?_
   | (with_reducible refine stpK ?_; intro K hK)
   | (with_reducible refine stpC ?_; intro T E hT hE)
   | (with_reducible refine stp2 ?_ ?_ <;> intro h)
   | with_reducible first | refine a0q rfl ?_ | refine a0t rfl (Nat.le_of_ble_eq_true rfl) a0s ?_ | refine a0t rfl (Nat.le_of_ble_eq_true rfl) (a0r (by simp [HPXB, a2d, fB, ext, upd, *])) ?_ | refine a1v (by decide) (by kernel_rfl) ?_ | refine a0x (by decide) ?_
   | (with_reducible refine Kont.go hK ?_; clear hK K)
   | ((with_reducible first | refine KT.go hT ?_ | refine KT.go hE ?_); clear hT hE T E)
   | simp [*, -List.all_flatten, -List.all_eq_true, DEFM, fB, a2e, a1u, a2d, hdN, a1i, a0w, a2g, a1m, a0y, a0z, a2n, a2o, a2p, anR, a6m, a6l, a3r, a4g, a3k, MG_t, MG_f, rmvs, a0j, a3c, a0h, a2r, a0b, a0e, FnD.row, Ins.row, b0p, a3k, b0w, b0v, a0f, a6x, a2j]
end Go.He
