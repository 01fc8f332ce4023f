/- Parts of the proof. -/
import Derived.Test.YtfhhgjbcenhdeaaGreatDoorF23
set_option linter.unusedSimpArgs false
set_option linter.unusedVariables false
namespace Go.Je
open Go Go.FM Go.Gv Go.Proofs
set_option maxRecDepth 100000
set_option maxHeartbeats 40000000
theorem e8w {p : Pg} (hp : VOk p) {m : Bool} {fk : FuncId} (hCT : CT p m fk) (hfk : fnOk Tryz.prog fk = true) {B : Heap} {Y : Pts} {g : Bool} {f pc : Nat} (hf : f < p.funcs.length) {X : Ins} (hI : InsOk p p.funcs[f] X) (hy : Shp p Y) (hB : BsM p 3 B) (q : X.op = 27 \/ X.op = 29 \/ X.op = 32) : FCr Tryz.prog Gl 141 [.ptr [81] 8 0 0, .agg [.int .i64 (f : Int), .int .i64 (pc : Int)], .agg X.row, .clo fk [] [.ptr [88] 1 0 0]] (HP [] B (MF p Y g)) (OutT p m B (a3h p f pc X) Y g) := by
 rcases q with q | q | q
 all_goals
  have hsv := a2t hp
  have fB : ∀ r, B (3 :: r) = none := fun r => (hB Y g Y g hy hy).fb 3 r (by decide)
  have y3 := hy.rn
  have y4 := hy.cn
  have hrr := hp.regs (gm_ hf)
  obtain ⟨y1, y2⟩ := hy.at hf
  obtain ⟨nr, hnr⟩ : ∃ nr : Nat, p.funcs[f].regs = (nr : Int) := ⟨p.funcs[f].regs.toNat, by have := hrr.p0; have := hrr.p1; omega⟩
  rw [hnr, tN_] at y2
  have hnr64 : nr <= 64 := by have := hrr.r64; omega
  have hIa := hI.a
  have hIb := hI.b
  have hIc := hI.c
  have hi1 : ∀ (L : List (FM.Loc × FO)) (Z : Pts) (h : Bool), inH (HP L B (MF p Z h)) [88] := fun L Z h => a6w
  have hi2 : ∀ (L : List (FM.Loc × FO)) (Z : Pts) (h : Bool), inH (HP L B (MF p Z h)) [81] := fun L Z h => a2n a2z
  have hi3 : ∀ (L : List (FM.Loc × FO)) (Z : Pts) (h : Bool), Shp p Z -> inH (HP L B (MF p Z h)) [83, f] := fun L Z h hZ => a2n (a3j (hZ.at hf).1)
  have ha : isR p.funcs[f] X.a := a3o (r := (rR X.op).1) hIa (by rw [q]; decide)
  obtain ⟨a0, a1⟩ := id ha
  have aN : (X.a).toNat < nr := by omega
  have a2 : X.a < (nr : Int) := by omega
  have haS := hy.rok hf ha
  have hrg : b1t Tryz.prog (HP (bxs p f pc nr X fk) B (MF p Y g)) [3, 183] 141 (.mp [85, f, X.a.toNat]) = some ([([3, 183], .iter (.mp [85, f, X.a.toNat]) (getS Y (.r f X.a.toNat)).length [] (getS Y (.r f X.a.toNat)).length)], .ptr [3, 183] 0 0 0) := b5u (a5u (p := p) (b := g) haS) (by simp [bxs, a1k, a1i, a1p, a1v, fB])
  simp only [bxs, Ins.row, q] at hrg
  have hi5 : ∀ (L : List (FM.Loc × FO)) (Z : Pts) (h : Bool), Shp p Z -> inH (HP L B (MF p Z h)) [85, f, X.a.toNat] := fun L Z h hZ => c7o (hZ.rok hf ha)
  refine a3d (res := []) 16 210 [27, 63, 62, 183, 192, 191, 190] (fun d ix => 3 :: d :: ix) (fn := Tryz.f141) (by kernel_rfl) (by rfl) (by rfl) (by rfl) (by simp) (by decide) ?_
  repeat' first
   | ((with_reducible refine a1f (id := 24) fun K hK => ?_); refine a0t 3 ?_)
   | ((with_reducible refine a1f (id := 27) fun K hK => ?_); refine a0t 5 ?_)
   | ((with_reducible refine a1f (id := 31) fun K hK => ?_); refine a0t 5 ?_)
   | ((with_reducible refine a1f (id := 33) fun K hK => ?_); refine a0t 6 ?_)
   | ((with_reducible refine a1f (id := 36) fun K hK => ?_); refine a0t 5 ?_)
   | ((with_reducible refine a1f (id := 39) fun K hK => ?_); refine a0t 5 ?_)
   | ((with_reducible refine a1f (id := 41) fun K hK => ?_); refine a0t 5 ?_)
   | ((with_reducible refine a1f (id := 45) fun K hK => ?_); refine a0t 4 ?_)
   | with_reducible first | refine a1h (id := 6) [] 7 a0y (by kernel_rfl) fun K hK => ?_ | refine a1h (id := 12) [] 8 a0y (by kernel_rfl) fun K hK => ?_ | refine a1h (id := 17) [] 16 a0y (by kernel_rfl) fun K hK => ?_ | refine a1h (id := 22) [] 11 a0y (by kernel_rfl) fun K hK => ?_ | refine a1h (id := 55) [] 12 a0y (by kernel_rfl) fun K hK => ?_ | refine a3r ?_ | refine a1f (id := 50) fun K hK => ?_
   | ((with_reducible refine a1a ?_); refine a1q (σ := {x : (List Nat × Nat) × (Pts × Bool) // LI p m (SL.r f X.a.toNat) (ccC p) Y g x.1.1 x.1.2 x.2.1 x.2.2}) (fun y => [(13, .undef), (15, .undef)]) [183] (fun y => []) [[3, 95]] (fun y => [([3, 183], .iter (.mp [85, f, X.a.toNat]) (getS Y (SL.r f X.a.toNat)).length y.1.1.1 y.1.1.2)]) (fun y => MF p y.1.2.1 y.1.2.2) (fun y => (a0l p).length - y.1.1.1.length) ⟨(([], (getS Y (SL.r f X.a.toNat)).length), (Y, g)), LI.start hy⟩ (gk3i (j := 3) [] (hB _ _ _ _ hy hy) ?_ ?_ ?_ ?_ ?_ ?_ ?_) ?_; (iterate 7 (focus (first | rfl | (simp [LPXB, *, SIMB, hdN, injB, fB, a1k, a1d, a1i, hdN, a0p, a0k, a1m]; done)))); rintro ⟨⟨⟨sn, lst⟩, ⟨Z, u⟩⟩, HL⟩; simp only [lpS, LPXB]; (try dsimp only at HL); have hZ := HL.sh; have hZt := hZ.rok hf ha; obtain ⟨z1, z2⟩ := hZ.at hf; rw [hnr, tN_] at z2; have z3 := hZ.rn; have z4 := hZ.cn)
   | ((with_reducible refine wlH ?_); refine c3j (l := [3, 183]) (k := [85, f, X.a.toNat]) (since := (getS Y (SL.r f X.a.toNat)).length) (last := lst) (clk := (getS Z (SL.r f X.a.toNat)).length) (seen := sn) (es := ents (getS Z (SL.r f X.a.toNat))) ?_ rfl rfl (lbR rfl) ?_ ?_ ?_ ?_ ?_ ?_; (focus (first | rfl | (simp [a2d]; done))); (focus (first | rfl | (simp [rv, Fs.get, lk]; done))); (focus (simp [HPXB, fB, a1k, a1d, a1i]; done)); (focus (exact a5u hZt)); (focus (exact c5f HL)); rotate_left; (rintro e' he' hn; obtain ⟨i, hi, rfl⟩ := b0l.1 he'; (try dsimp only at hn); have hlen := HL.len hi hn; have hen := b6v (H := HP (bxs p f pc nr X fk ++ [([3, 183], .iter (.mp [85, f, X.a.toNat]) (getS Y (SL.r f X.a.toNat)).length (sn ++ [i]) (getS Z (SL.r f X.a.toNat)).length)]) B (MF p Z u)) (l := [3, 183]) (k := [85, f, X.a.toNat]) (since := (getS Y (SL.r f X.a.toNat)).length) (sn := sn) hi (by simp [bxs, HPXB, fB, a1k, a1d, a1i]) (a5u hZt); simp only [bxs, Ins.row, q, List.cons_append, List.nil_append] at hen; obtain ⟨o0, o1⟩ := (hZ.gets (SL.r f X.a.toNat)).2 _ (gm_ hi); generalize ho : (getS Z (SL.r f X.a.toNat))[i] = o at hen o0 o1; have hfu := fun (L : List (FM.Loc × FO)) hl hn => c4h (L := L) (g := u) hp hZ hB hl hn o1; have hfb := fun q (hq : q ∈ a5w p Z o) => c4g hp hq; have hfl := e0y (p := p) Z o; generalize hfs : a5w p Z o = fs at hfu hfb hfl; refine b3r ?_); rotate_right; intro hz; refine b3r ?_)
   | ((with_reducible refine cgH ?_); refine a7a rfl (hfu _ ?_ ?_) ?_; (focus rfl); (focus (first | rfl | (simp [ninL, ninO, a2u, nins, nin, a0e, a0m, a0c, a0v, a0a, a0b, a1j, mapO, a1o, a1m, a0p, a0k, hdN, *]; done))))
   | ((with_reducible refine a1a ?_); refine a1q (σ := {x : Nat × (Pts × Bool) // x.1 <= fs.length /\ Shp p x.2.1 /\ TR m (fcC o fs x.1) (fcC o fs x.1) Z u x.2.1 x.2.2}) (fun y => [(15, .undef)]) [191, 190, 183] (fun y => [(192, .int .i64 (y.1.1 : Int))]) [[3, 95]] (fun y => []) (fun y => MF p y.1.2.1 y.1.2.2) (fun y => fs.length - y.1.1) ⟨(0, (Z, u)), Nat.zero_le _, hZ, TR.id (f8m _ _ _)⟩ (gk3i (j := 3) [] (hB _ _ _ _ hy hZ) ?_ ?_ ?_ ?_ ?_ ?_ ?_) ?_; (iterate 7 (focus (first | rfl | (simp [LPXB, *, SIMB, hdN, injB, fB, a1k, a1d, a1i, hdN, a0p, a0k, a1m, a0a, a0n]; done)))); rintro ⟨⟨k, ⟨V, v⟩⟩, hk2, hV, hT3⟩; simp only [lpS, LPXB]; (try dsimp only at hk2 hV hT3); have v3 := hV.rn; have v4 := hV.cn; rcases a0z hk2 with hlk | ⟨hlk, he⟩; rotate_left; subst k; rotate_left; have wk := wli hlk (by have := hp.nf; omega); obtain ⟨g0, g1, g2⟩ := hfb _ (gm_ hlk); obtain ⟨gi, gr⟩ := reg0 hp g0 g1 g2; obtain ⟨v1, v2⟩ := hV.at gi; obtain ⟨nrg, hnrg⟩ : ∃ nrg : Nat, (p.funcs[(fs[k]'hlk).toNat]'gi).regs = (nrg : Int) := ⟨(p.funcs[(fs[k]'hlk).toNat]'gi).regs.toNat, by have := gr.2; omega⟩; rw [hnrg, tN_] at v2; have v5 : 0 < nrg := (by have := gr.2; omega); have hto0 := hV.rok gi gr; have hto : (SL.r (fs[k]'hlk).toNat 0).ok V := (by simpa using hto0))
   | (with_reducible refine hfc1 [3, 95] (mapO [o]) (fun H2 _ h0 => d8n o h0) ?_)
   | ((with_reducible refine mdH ?_); refine a2l hfk (fun d hd => ?_) rfl (b4g (.r (fs[k]'hlk).toNat 0) [3, 95] hCT hB (by decide) hV hto (ok1 o0 o1) (by simp [HPXB, fB, a1k, a1d, a1i]) rfl ?_) ?_; (focus (cases hd; exact lbR rfl)); (focus (first | rfl | (simp [ninL, ninO, a2u, nins, nin, a0e, a0m, a0c, a0v, a0a, a0b, a1j, mapO, a1o, a0p, a0k, hdN, *]; done))); (rintro r' H' ⟨rfl, V2, v2_, rfl, hV2, hT4⟩))
   | ((with_reducible refine a0q ?_); refine a1b (⟨(k + 1, (V2, v2_)), by omega, hV2, hT3.step1 hT4 (f8l hlk)⟩) (gk3i (j := 3) [] (hB _ _ _ _ hy hV2) ?_ ?_ ?_ ?_ ?_ ?_ ?_) ?_; (iterate 7 (focus (first | rfl | (simp [LPXB, *, SIMB, hdN, injB, fB, a1k, a1d, a1i, hdN, a0p, a0k, a1m, a0a, a0n]; done)))); (focus (dsimp only; omega)))
   | ((with_reducible refine a0q ?_); obtain HL2 : LI p m (SL.r f X.a.toNat) (ccC p) Y g (sn ++ [i]) (getS Z (SL.r f X.a.toNat)).length V v := HL.step hi hn hV hT3 (fun z hs hc => by rw [ho] at hc; rw [<- hfs]; exact fc_s hp hs hc) (fun hc => by rw [ho]; rw [<- hfs] at hc; exact fc_n hc); ((with_reducible refine a0q ?_); refine a1b (⟨((sn ++ [i], (getS Z (SL.r f X.a.toNat)).length), (V, v)), HL2⟩) (gk3i (j := 3) [] (hB _ _ _ _ hy hV) ?_ ?_ ?_ ?_ ?_ ?_ ?_) ?_; (iterate 7 (focus (first | rfl | (simp [LPXB, *, SIMB, hdN, injB, fB, a1k, a1d, a1i, hdN, a0p, a0k, a1m]; done)))); (focus (dsimp only; simp only [List.length_append, List.length_singleton]; omega))))
   | ((with_reducible refine lfH ?_); refine a6j (j := 3) (hB _ _ _ _ hy hZ) rfl ⟨rfl, Z, u, rfl, hZ, (HL.fin (d4u HL hz)).congr (fun z => by simp [a3h, q, alO, gsr, ccC])⟩ trivial)
   | with_reducible first | refine a4e ?_ | refine a6g ?_ | refine a2j (id := 1) 9 a0y (by kernel_rfl) fun K hK => ?_ | refine a2j (id := 11) 6 a0y (by kernel_rfl) fun K hK => ?_ | refine stp ?_ | refine stpK ?_; intro K hK | refine stpC ?_; intro T E hT hE | refine stp2 ?_ ?_ <;> intro h | refine a0g rfl ?_ | refine a0j rfl (lbR rfl) a0i ?_ | refine a0j rfl (lbR rfl) (a0h (by simp [HPXB, a1i, fB, ext, upd, *])) ?_ | refine a1g (by decide) (by kernel_rfl) ?_ | refine a0o (by decide) ?_ | refine Kont.go hK ?_; clear hK K | refine KT.go hT ?_; clear hT hE T E | refine KT.go hE ?_; clear hT hE T E
   | simp [*, -List.all_flatten, -List.all_eq_true, DEFM, fB, a1k, a1d, a1i, hdN, a0p, a0k, a1m, a0u, a0r, a0s, a1y, a1z, a2a, anR, a5y, a5x, a2z, a3j, a2p, MG_t, MG_f, rmvs, a1c, a2o, a0x, a2b, a0b, a0e, FnD.row, Ins.row, a8w, a2p, a9i, a9h, a0n, a4z, a2f]
theorem f9e {p : Pg} (hp : VOk p) {m : Bool} {fk : FuncId} (hCT : CT p m fk) (hfk : fnOk Tryz.prog fk = true) {B : Heap} {Y : Pts} {g : Bool} {f pc : Nat} (hf : f < p.funcs.length) {X : Ins} (hI : InsOk p p.funcs[f] X) (hy : Shp p Y) (hB : BsM p 3 B) (q : X.op = 51) (h1 : X.b = 1) : FCr Tryz.prog Gl 141 [.ptr [81] 8 0 0, .agg [.int .i64 (f : Int), .int .i64 (pc : Int)], .agg X.row, .clo fk [] [.ptr [88] 1 0 0]] (HP [] B (MF p Y g)) (OutT p m B (a3h p f pc X) Y g) := by
 have hsv := a2t hp
 have fB : ∀ r, B (3 :: r) = none := fun r => (hB Y g Y g hy hy).fb 3 r (by decide)
 have y3 := hy.rn
 have y4 := hy.cn
 have hrr := hp.regs (gm_ hf)
 obtain ⟨y1, y2⟩ := hy.at hf
 obtain ⟨nr, hnr⟩ : ∃ nr : Nat, p.funcs[f].regs = (nr : Int) := ⟨p.funcs[f].regs.toNat, by have := hrr.p0; have := hrr.p1; omega⟩
 rw [hnr, tN_] at y2
 have hnr64 : nr <= 64 := by have := hrr.r64; omega
 have hIa := hI.a
 have hIb := hI.b
 have hIc := hI.c
 have hi1 : ∀ (L : List (FM.Loc × FO)) (Z : Pts) (h : Bool), inH (HP L B (MF p Z h)) [88] := fun L Z h => a6w
 have hi2 : ∀ (L : List (FM.Loc × FO)) (Z : Pts) (h : Bool), inH (HP L B (MF p Z h)) [81] := fun L Z h => a2n a2z
 have hi3 : ∀ (L : List (FM.Loc × FO)) (Z : Pts) (h : Bool), Shp p Z -> inH (HP L B (MF p Z h)) [83, f] := fun L Z h hZ => a2n (a3j (hZ.at hf).1)
 have hcc := hI.c
 rw [q] at hcc
 have hcc := e3d (show opR p p.funcs[f] X 99 X.c = true from hcc)
 have ha : isR p.funcs[f] X.a := a3o (r := (rR X.op).1) hIa (by rw [q]; decide)
 obtain ⟨a0, a1⟩ := id ha
 have aN : (X.a).toNat < nr := by omega
 have a2 : X.a < (nr : Int) := by omega
 have haS := hy.rok hf ha
 have hc : isR p.funcs[f] X.c := show isR p.funcs[f] X.c from ⟨by omega, hcc.1⟩
 obtain ⟨c0, c1⟩ := id hc
 have cN : (X.c).toNat < nr := by omega
 have c2 : X.c < (nr : Int) := by omega
 have hcS := hy.rok hf hc
 refine a3d (res := []) 16 210 [27, 63, 62, 183, 192, 191, 190] (fun d ix => 3 :: d :: ix) (fn := Tryz.f141) (by kernel_rfl) (by rfl) (by rfl) (by rfl) (by simp) (by decide) ?_
 repeat' first
  | ((with_reducible refine a1f (id := 24) fun K hK => ?_); refine a0t 3 ?_)
  | ((with_reducible refine a1f (id := 27) fun K hK => ?_); refine a0t 5 ?_)
  | ((with_reducible refine a1f (id := 31) fun K hK => ?_); refine a0t 5 ?_)
  | ((with_reducible refine a1f (id := 33) fun K hK => ?_); refine a0t 6 ?_)
  | ((with_reducible refine a1f (id := 36) fun K hK => ?_); refine a0t 5 ?_)
  | ((with_reducible refine a1f (id := 39) fun K hK => ?_); refine a0t 5 ?_)
  | ((with_reducible refine a1f (id := 41) fun K hK => ?_); refine a0t 5 ?_)
  | ((with_reducible refine a1f (id := 45) fun K hK => ?_); refine a0t 4 ?_)
  | with_reducible first | refine a1h (id := 6) [] 7 a0y (by kernel_rfl) fun K hK => ?_ | refine a1h (id := 12) [] 8 a0y (by kernel_rfl) fun K hK => ?_ | refine a1h (id := 17) [] 16 a0y (by kernel_rfl) fun K hK => ?_ | refine a1h (id := 22) [] 11 a0y (by kernel_rfl) fun K hK => ?_ | refine a1h (id := 55) [] 12 a0y (by kernel_rfl) fun K hK => ?_ | refine a3r ?_
  | ((with_reducible refine mdH ?_); refine a2l (by kernel_rfl) (fun d hd => ?_) rfl (cl2M hCT hfk (a := X.a) (e := X.c) (hf := hf) hy hB ?_ ?_ hnr ⟨?_, ?_, ?_⟩ ha hc) ?_; (focus (cases hd; exact lbR rfl)); (focus rfl); (focus (first | rfl | (simp [ninL, ninO, a2u, nins, nin, a0e, a0m, a0c, a0v, a0a, a0b, a1j, mapO, a1o, a1m, a0p, a0k, hdN, *]; done))); (iterate 3 (focus (simp [a1p, a1v]; done))); (rintro r' H' ⟨rfl, Z2, h2, rfl, hZ2, hT2⟩))
  | ((with_reducible refine lfH ?_); refine a6j (j := 3) (hB _ _ _ _ hy hZ2) rfl ⟨rfl, Z2, h2, rfl, hZ2, hT2.congr (fun z => by simp [a3h, q, alO, gsr, rdC, wrC, h1])⟩ trivial)
  | with_reducible first | refine a4e ?_ | refine a6g ?_ | refine a2j (id := 1) 9 a0y (by kernel_rfl) fun K hK => ?_ | refine a2j (id := 11) 6 a0y (by kernel_rfl) fun K hK => ?_ | refine stp ?_ | refine stpK ?_; intro K hK | refine stpC ?_; intro T E hT hE | refine stp2 ?_ ?_ <;> intro h | refine a0g rfl ?_ | refine a0j rfl (lbR rfl) a0i ?_ | refine a0j rfl (lbR rfl) (a0h (by simp [HPXB, a1i, fB, ext, upd, *])) ?_ | refine a1g (by decide) (by kernel_rfl) ?_ | refine a0o (by decide) ?_ | refine Kont.go hK ?_; clear hK K | refine KT.go hT ?_; clear hT hE T E | refine KT.go hE ?_; clear hT hE T E
  | simp [*, -List.all_flatten, -List.all_eq_true, DEFM, fB, a1k, a1d, a1i, hdN, a0p, a0k, a1m, a0u, a0r, a0s, a1y, a1z, a2a, anR, a5y, a5x, a2z, a3j, a2p, MG_t, MG_f, rmvs, a1c, a2o, a0x, a2b, a0b, a0e, FnD.row, Ins.row, a8w, a2p, a9i, a9h]
end Go.Je
