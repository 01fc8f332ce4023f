/- Parts of the proof. -/
import Derived.Test.YtfhhgjbcenhdeaaGreatDoorF19
set_option linter.unusedSimpArgs false
set_option linter.unusedVariables false
namespace Go.Je
open Go Go.FM Go.Gv Go.Proofs
set_option maxRecDepth 100000
set_option maxHeartbeats 40000000
theorem d8q {p : Pg} {m : Bool} {fk : FuncId} (hCT : CT p m fk) (hfk : fnOk Tryz.prog fk = true) {B : Heap} {Y : Pts} {g : Bool} {f : Nat} (hf : f < p.funcs.length) (hy : Shp p Y) (hB : BsM p 2 B) {nr nb nr2 np : Nat} (hnr : p.funcs[f].regs = (nr : Int)) {X : Ins} (hxb : X.b = (nb : Int)) (hnb : nb < p.funcs.length) (hnr2 : p.funcs[nb].regs = (nr2 : Int)) (hnp : p.funcs[nb].params = (np : Int)) (h1 : np <= nr2) (h2 : nr2 <= 64) (h3 : nr <= 64) (hc0 : 0 <= X.c) (hc1 : X.c + np <= nr) (q1 : ¬ X.op = 26) : FCr Tryz.prog Gl 175 [.ptr [81] 8 0 0, .agg X.row, .sl [83, f] 1 0 nr, .clo fk [] [.ptr [88] 1 0 0]] (HP [] B (MF p Y g)) (OutT p m B (b7b f X nb np (p.funcs[nb]'hnb).code) Y g) := by
 have fB : ∀ r, B (2 :: r) = none := fun r => (hB Y g Y g hy hy).fb 2 r (by decide)
 have y3 := hy.rn
 have hi1 : ∀ (L : List (FM.Loc × FO)) (Z : Pts) (h : Bool), inH (HP L B (MF p Z h)) [88] := fun L Z h => a6w
 have hi2 : ∀ (L : List (FM.Loc × FO)) (Z : Pts) (h : Bool), inH (HP L B (MF p Z h)) [81] := fun L Z h => a2n a2z
 have hi3 : ∀ (L : List (FM.Loc × FO)) (Z : Pts) (h : Bool), Shp p Z -> inH (HP L B (MF p Z h)) [83, f] := fun L Z h hZ => a2n (a3j (hZ.at hf).1)
 refine a3d (res := []) 12 90 [23, 22, 58, 57, 56] (fun d ix => 2 :: d :: ix) (fn := Tryz.f175) (by kernel_rfl) (by rfl) (by rfl) (by rfl) (by simp) (by decide) ?_
 repeat' first
  | with_reducible first | refine a1h (id := 5) [] 19 a0y (by kernel_rfl) fun K hK => ?_ | refine a1h (id := 12) [] 18 a0y (by kernel_rfl) fun K hK => ?_ | refine a3r ?_
  | ((with_reducible refine a1a ?_); refine a1q (σ := {x : Nat × (Pts × Bool) // x.1 <= np /\ Shp p x.2.1 /\ TR m (prC f X nb x.1) (prC f X nb x.1) Y g x.2.1 x.2.2}) (fun y => [(9, .undef)]) [22] (fun y => [(23, .int .i64 (y.1.1 : Int))]) [] (fun y => []) (fun y => MF p y.1.2.1 y.1.2.2) (fun y => np - y.1.1) ⟨(0, (Y, g)), Nat.zero_le _, hy, TR.id (e6l _ _ _ _)⟩ (gk3i (j := 2) [] (hB _ _ _ _ hy hy) ?_ ?_ ?_ ?_ ?_ ?_ ?_) ?_; (iterate 7 (focus (first | rfl | (simp [LPXB, *, SIMB, hdN, injB, fB, a1k, a1d, a1i, hdN, a0p, a0k]; done)))); rintro ⟨⟨k, ⟨Z, u⟩⟩, hk, hZ, hT1⟩; simp only [lpS, LPXB]; (try dsimp only at hk hZ hT1); obtain ⟨z1, z2⟩ := hZ.at hf; rw [hnr, tN_] at z2; obtain ⟨z5, z6⟩ := hZ.at hnb; rw [hnr2, tN_] at z6; have z3 := hZ.rn; rcases a0z hk with hlt | ⟨hlt, he⟩; rotate_left; subst k; rotate_left; have wk := wli hlt (by omega); have wc : IntKind.wrap .i64 (X.c + (k : Int)) = X.c + (k : Int) := (by rw [IntKind.wrap_i64]; omega); have c2 : X.c + (k : Int) < (nr : Int) := (by omega); have c3 : (0 : Int) <= X.c + (k : Int) := (by omega); have c4 : (X.c + (k : Int)).toNat < nr := (by omega); have k2 : k < nr2 := (by omega); have hto := hZ.rok hnb (a := (k : Int)) ⟨by omega, by omega⟩; have hfr := hZ.rok hf (a := X.c + (k : Int)) ⟨c3, by omega⟩)
  | ((with_reducible refine mdH ?_); refine a2l hfk (fun d hd => ?_) rfl (b4g (.r nb k) (SL.r f (X.c + (k : Int)).toNat).loc hCT hB (by decide) hZ (by simpa using hto) (hZ.gets (.r f (X.c + (k : Int)).toNat)) (a5u hfr) rfl ?_) ?_; (focus (cases hd; exact lbR rfl)); (focus (first | rfl | (simp [ninL, ninO, a2u, nins, nin, a0e, a0m, a0c, a0v, a0a, a0b, a1j, mapO, a1o, a0p, a0k, hdN, *]; done))); (rintro r' H' ⟨rfl, Z2, h2, rfl, hZ2, hT2⟩))
  | ((with_reducible refine a0q ?_); refine a1b (⟨(k + 1, (Z2, h2)), by omega, hZ2, hT1.stepk hT2 e6k⟩) (gk3i (j := 2) [] (hB _ _ _ _ hy hZ2) ?_ ?_ ?_ ?_ ?_ ?_ ?_) ?_; (iterate 7 (focus (first | rfl | (simp [LPXB, *, SIMB, hdN, injB, fB, a1k, a1d, a1i, hdN, a0p, a0k]; done)))); (focus (dsimp only; omega)))
  | ((with_reducible refine lfH ?_); refine a6j (j := 2) (hB _ _ _ _ hy hZ) rfl ⟨rfl, Z, u, rfl, hZ, hT1.callN (fun h => q1 h.1)⟩ trivial)
  | with_reducible first | refine a4e ?_ | refine a6g ?_ | refine a2j (id := 1) 10 a0y (by kernel_rfl) fun K hK => ?_ | refine stp ?_ | refine stpK ?_; intro K hK | refine stpC ?_; intro T E hT hE | refine stp2 ?_ ?_ <;> intro h | refine a0g rfl ?_ | refine a0j rfl (lbR rfl) a0i ?_ | refine a0j rfl (lbR rfl) (a0h (by simp [HPXB, a1i, fB, ext, upd, *])) ?_ | refine a1g (by decide) (by kernel_rfl) ?_ | refine a0o (by decide) ?_ | refine Kont.go hK ?_; clear hK K | refine KT.go hT ?_; clear hT hE T E | refine KT.go hE ?_; clear hT hE T E
  | simp [*, -List.all_flatten, -List.all_eq_true, DEFM, fB, a1k, a1d, a1i, hdN, a0p, a0k, a0u, a0r, a0s, a1y, a1z, a2a, anR, a5y, a5x, a2z, a3j, a2p, MG_t, MG_f, rmvs, a1c, a2o, a0x, a2b, a0b, a0e, FnD.row, Ins.row]
theorem d8p {p : Pg} {m : Bool} {fk : FuncId} (hCT : CT p m fk) (hfk : fnOk Tryz.prog fk = true) {B : Heap} {Y : Pts} {g : Bool} {f : Nat} (hf : f < p.funcs.length) (hy : Shp p Y) (hB : BsM p 2 B) {nr nb nr2 np : Nat} (hnr : p.funcs[f].regs = (nr : Int)) {X : Ins} (hxb : X.b = (nb : Int)) (hnb : nb < p.funcs.length) (hnr2 : p.funcs[nb].regs = (nr2 : Int)) (hnp : p.funcs[nb].params = (np : Int)) (h1 : np <= nr2) (h2 : nr2 <= 64) (h3 : nr <= 64) (hc0 : 0 <= X.c) (hc1 : X.c + np <= nr) (q1 : X.op = 26) (q2 : X.a < 0) : FCr Tryz.prog Gl 175 [.ptr [81] 8 0 0, .agg X.row, .sl [83, f] 1 0 nr, .clo fk [] [.ptr [88] 1 0 0]] (HP [] B (MF p Y g)) (OutT p m B (b7b f X nb np (p.funcs[nb]'hnb).code) Y g) := by
 have fB : ∀ r, B (2 :: r) = none := fun r => (hB Y g Y g hy hy).fb 2 r (by decide)
 have y3 := hy.rn
 have hi1 : ∀ (L : List (FM.Loc × FO)) (Z : Pts) (h : Bool), inH (HP L B (MF p Z h)) [88] := fun L Z h => a6w
 have hi2 : ∀ (L : List (FM.Loc × FO)) (Z : Pts) (h : Bool), inH (HP L B (MF p Z h)) [81] := fun L Z h => a2n a2z
 have hi3 : ∀ (L : List (FM.Loc × FO)) (Z : Pts) (h : Bool), Shp p Z -> inH (HP L B (MF p Z h)) [83, f] := fun L Z h hZ => a2n (a3j (hZ.at hf).1)
 refine a3d (res := []) 12 90 [23, 22, 58, 57, 56] (fun d ix => 2 :: d :: ix) (fn := Tryz.f175) (by kernel_rfl) (by rfl) (by rfl) (by rfl) (by simp) (by decide) ?_
 repeat' first
  | with_reducible first | refine a1h (id := 5) [] 19 a0y (by kernel_rfl) fun K hK => ?_ | refine a1h (id := 12) [] 18 a0y (by kernel_rfl) fun K hK => ?_ | refine a3r ?_
  | ((with_reducible refine a1a ?_); refine a1q (σ := {x : Nat × (Pts × Bool) // x.1 <= np /\ Shp p x.2.1 /\ TR m (prC f X nb x.1) (prC f X nb x.1) Y g x.2.1 x.2.2}) (fun y => [(9, .undef)]) [22] (fun y => [(23, .int .i64 (y.1.1 : Int))]) [] (fun y => []) (fun y => MF p y.1.2.1 y.1.2.2) (fun y => np - y.1.1) ⟨(0, (Y, g)), Nat.zero_le _, hy, TR.id (e6l _ _ _ _)⟩ (gk3i (j := 2) [] (hB _ _ _ _ hy hy) ?_ ?_ ?_ ?_ ?_ ?_ ?_) ?_; (iterate 7 (focus (first | rfl | (simp [LPXB, *, SIMB, hdN, injB, fB, a1k, a1d, a1i, hdN, a0p, a0k]; done)))); rintro ⟨⟨k, ⟨Z, u⟩⟩, hk, hZ, hT1⟩; simp only [lpS, LPXB]; (try dsimp only at hk hZ hT1); obtain ⟨z1, z2⟩ := hZ.at hf; rw [hnr, tN_] at z2; obtain ⟨z5, z6⟩ := hZ.at hnb; rw [hnr2, tN_] at z6; have z3 := hZ.rn; rcases a0z hk with hlt | ⟨hlt, he⟩; rotate_left; subst k; rotate_left; have wk := wli hlt (by omega); have wc : IntKind.wrap .i64 (X.c + (k : Int)) = X.c + (k : Int) := (by rw [IntKind.wrap_i64]; omega); have c2 : X.c + (k : Int) < (nr : Int) := (by omega); have c3 : (0 : Int) <= X.c + (k : Int) := (by omega); have c4 : (X.c + (k : Int)).toNat < nr := (by omega); have k2 : k < nr2 := (by omega); have hto := hZ.rok hnb (a := (k : Int)) ⟨by omega, by omega⟩; have hfr := hZ.rok hf (a := X.c + (k : Int)) ⟨c3, by omega⟩)
  | ((with_reducible refine mdH ?_); refine a2l hfk (fun d hd => ?_) rfl (b4g (.r nb k) (SL.r f (X.c + (k : Int)).toNat).loc hCT hB (by decide) hZ (by simpa using hto) (hZ.gets (.r f (X.c + (k : Int)).toNat)) (a5u hfr) rfl ?_) ?_; (focus (cases hd; exact lbR rfl)); (focus (first | rfl | (simp [ninL, ninO, a2u, nins, nin, a0e, a0m, a0c, a0v, a0a, a0b, a1j, mapO, a1o, a0p, a0k, hdN, *]; done))); (rintro r' H' ⟨rfl, Z2, h2, rfl, hZ2, hT2⟩))
  | ((with_reducible refine a0q ?_); refine a1b (⟨(k + 1, (Z2, h2)), by omega, hZ2, hT1.stepk hT2 e6k⟩) (gk3i (j := 2) [] (hB _ _ _ _ hy hZ2) ?_ ?_ ?_ ?_ ?_ ?_ ?_) ?_; (iterate 7 (focus (first | rfl | (simp [LPXB, *, SIMB, hdN, injB, fB, a1k, a1d, a1i, hdN, a0p, a0k]; done)))); (focus (dsimp only; omega)))
  | ((with_reducible refine lfH ?_); refine a6j (j := 2) (hB _ _ _ _ hy hZ) rfl ⟨rfl, Z, u, rfl, hZ, hT1.callN (fun h => by omega)⟩ trivial)
  | with_reducible first | refine a4e ?_ | refine a6g ?_ | refine a2j (id := 1) 10 a0y (by kernel_rfl) fun K hK => ?_ | refine stp ?_ | refine stpK ?_; intro K hK | refine stpC ?_; intro T E hT hE | refine stp2 ?_ ?_ <;> intro h | refine a0g rfl ?_ | refine a0j rfl (lbR rfl) a0i ?_ | refine a0j rfl (lbR rfl) (a0h (by simp [HPXB, a1i, fB, ext, upd, *])) ?_ | refine a1g (by decide) (by kernel_rfl) ?_ | refine a0o (by decide) ?_ | refine Kont.go hK ?_; clear hK K | refine KT.go hT ?_; clear hT hE T E | refine KT.go hE ?_; clear hT hE T E
  | simp [*, -List.all_flatten, -List.all_eq_true, DEFM, fB, a1k, a1d, a1i, hdN, a0p, a0k, a0u, a0r, a0s, a1y, a1z, a2a, anR, a5y, a5x, a2z, a3j, a2p, MG_t, MG_f, rmvs, a1c, a2o, a0x, a2b, a0b, a0e, FnD.row, Ins.row]
theorem e5k {p : Pg} {m : Bool} {fk : FuncId} (hCT : CT p m fk) (hfk : fnOk Tryz.prog fk = true) {B : Heap} {Y : Pts} {g : Bool} {f : Nat} (hf : f < p.funcs.length) (hy : Shp p Y) (hB : BsM p 2 B) {nr nb nr2 np : Nat} (hnr : p.funcs[f].regs = (nr : Int)) {X : Ins} (hxb : X.b = (nb : Int)) (hnb : nb < p.funcs.length) (hnr2 : p.funcs[nb].regs = (nr2 : Int)) (hnp : p.funcs[nb].params = (np : Int)) (h1 : np <= nr2) (h2 : nr2 <= 64) (h3 : nr <= 64) (hc0 : 0 <= X.c) (hc1 : X.c + np <= nr) (q1 : X.op = 26) (q2 : ¬ X.a < 0) (q3 : X.a < (nr : Int)) (hcl : (p.funcs[nb]'hnb).code.length <= 1000) (hg : ∀ n ∈ (p.funcs[nb]'hnb).code, n.op = 30 -> n.a < (nr2 : Int)) : FCr Tryz.prog Gl 175 [.ptr [81] 8 0 0, .agg X.row, .sl [83, f] 1 0 nr, .clo fk [] [.ptr [88] 1 0 0]] (HP [] B (MF p Y g)) (OutT p m B (b7b f X nb np (p.funcs[nb]'hnb).code) Y g) := by
 have fB : ∀ r, B (2 :: r) = none := fun r => (hB Y g Y g hy hy).fb 2 r (by decide)
 have y3 := hy.rn
 have hi1 : ∀ (L : List (FM.Loc × FO)) (Z : Pts) (h : Bool), inH (HP L B (MF p Z h)) [88] := fun L Z h => a6w
 have hi2 : ∀ (L : List (FM.Loc × FO)) (Z : Pts) (h : Bool), inH (HP L B (MF p Z h)) [81] := fun L Z h => a2n a2z
 have hi3 : ∀ (L : List (FM.Loc × FO)) (Z : Pts) (h : Bool), Shp p Z -> inH (HP L B (MF p Z h)) [83, f] := fun L Z h hZ => a2n (a3j (hZ.at hf).1)
 have q4 : 0 <= X.a := by omega
 have q5 : X.a.toNat < nr := by omega
 refine a3d (res := []) 12 90 [23, 22, 58, 57, 56] (fun d ix => 2 :: d :: ix) (fn := Tryz.f175) (by kernel_rfl) (by rfl) (by rfl) (by rfl) (by simp) (by decide) ?_
 repeat' first
  | with_reducible first | refine a1h (id := 5) [] 19 a0y (by kernel_rfl) fun K hK => ?_ | refine a1h (id := 12) [] 18 a0y (by kernel_rfl) fun K hK => ?_ | refine a3r ?_
  | ((with_reducible refine a1a ?_); refine a1q (σ := {x : Nat × (Pts × Bool) // x.1 <= np /\ Shp p x.2.1 /\ TR m (prC f X nb x.1) (prC f X nb x.1) Y g x.2.1 x.2.2}) (fun y => [(9, .undef)]) [22] (fun y => [(23, .int .i64 (y.1.1 : Int))]) [] (fun y => []) (fun y => MF p y.1.2.1 y.1.2.2) (fun y => np - y.1.1) ⟨(0, (Y, g)), Nat.zero_le _, hy, TR.id (e6l _ _ _ _)⟩ (gk3i (j := 2) [] (hB _ _ _ _ hy hy) ?_ ?_ ?_ ?_ ?_ ?_ ?_) ?_; (iterate 7 (focus (first | rfl | (simp [LPXB, *, SIMB, hdN, injB, fB, a1k, a1d, a1i, hdN, a0p, a0k]; done)))); rintro ⟨⟨k, ⟨Z, u⟩⟩, hk, hZ, hT1⟩; simp only [lpS, LPXB]; (try dsimp only at hk hZ hT1); obtain ⟨z1, z2⟩ := hZ.at hf; rw [hnr, tN_] at z2; obtain ⟨z5, z6⟩ := hZ.at hnb; rw [hnr2, tN_] at z6; have z3 := hZ.rn; rcases a0z hk with hlt | ⟨hlt, he⟩; rotate_left; subst k; rotate_left; have wk := wli hlt (by omega); have wc : IntKind.wrap .i64 (X.c + (k : Int)) = X.c + (k : Int) := (by rw [IntKind.wrap_i64]; omega); have c2 : X.c + (k : Int) < (nr : Int) := (by omega); have c3 : (0 : Int) <= X.c + (k : Int) := (by omega); have c4 : (X.c + (k : Int)).toNat < nr := (by omega); have k2 : k < nr2 := (by omega); have hto := hZ.rok hnb (a := (k : Int)) ⟨by omega, by omega⟩; have hfr := hZ.rok hf (a := X.c + (k : Int)) ⟨c3, by omega⟩)
  | ((with_reducible refine mdH ?_); refine a2l hfk (fun d hd => ?_) rfl (b4g (.r nb k) (SL.r f (X.c + (k : Int)).toNat).loc hCT hB (by decide) hZ (by simpa using hto) (hZ.gets (.r f (X.c + (k : Int)).toNat)) (a5u hfr) rfl ?_) ?_; (focus (cases hd; exact lbR rfl)); (focus (first | rfl | (simp [ninL, ninO, a2u, nins, nin, a0e, a0m, a0c, a0v, a0a, a0b, a1j, mapO, a1o, a0p, a0k, hdN, *]; done))); (rintro r' H' ⟨rfl, Z2, h2, rfl, hZ2, hT2⟩))
  | ((with_reducible refine a0q ?_); refine a1b (⟨(k + 1, (Z2, h2)), by omega, hZ2, hT1.stepk hT2 e6k⟩) (gk3i (j := 2) [] (hB _ _ _ _ hy hZ2) ?_ ?_ ?_ ?_ ?_ ?_ ?_) ?_; (iterate 7 (focus (first | rfl | (simp [LPXB, *, SIMB, hdN, injB, fB, a1k, a1d, a1i, hdN, a0p, a0k]; done)))); (focus (dsimp only; omega)))
  | ((with_reducible refine a1a ?_); refine a1q (σ := {x : Nat × (Pts × Bool) // x.1 <= (p.funcs[nb]'hnb).code.length /\ Shp p x.2.1 /\ TR m (rtC f X nb (p.funcs[nb]'hnb).code x.1) (rtC f X nb (p.funcs[nb]'hnb).code x.1) Z u x.2.1 x.2.2}) (fun y => [(11, .undef)]) [57, 56] (fun y => [(58, .int .i64 (y.1.1 : Int))]) [[2, 11]] (fun y => []) (fun y => MF p y.1.2.1 y.1.2.2) (fun y => (p.funcs[nb]'hnb).code.length - y.1.1) ⟨(0, (Z, u)), Nat.zero_le _, hZ, TR.id (f6r _ _ _ _ _)⟩ (gk3i (j := 2) [] (hB _ _ _ _ hy hZ) ?_ ?_ ?_ ?_ ?_ ?_ ?_) ?_; (iterate 7 (focus (first | rfl | (simp [LPXB, *, SIMB, hdN, injB, fB, a1k, a1d, a1i, hdN, a0p, a0k, a0b]; done)))); rintro ⟨⟨k, ⟨V, v⟩⟩, hk2, hV, hT3⟩; simp only [lpS, LPXB]; (try dsimp only at hk2 hV hT3); obtain ⟨v1, v2⟩ := hV.at hf; rw [hnr, tN_] at v2; obtain ⟨v5, v6⟩ := hV.at hnb; rw [hnr2, tN_] at v6; have v3 := hV.rn; rcases a0z hk2 with hlk | ⟨hlk, he⟩; rotate_left; subst k; rotate_left; have wk := wli hlk (by omega); have hgl := hg (p.funcs[nb]'hnb).code[k] (gm_ hlk); have hga := hV.rok hf (a := X.a) ⟨by omega, by omega⟩; by_cases r1 : (p.funcs[nb]'hnb).code[k].op = 30; rotate_left; have hno : ¬ ((p.funcs[nb]'hnb).code[k].op = 30 /\ 0 <= (p.funcs[nb]'hnb).code[k].a) := (fun h => r1 h.1); rotate_right; by_cases r2 : 0 <= (p.funcs[nb]'hnb).code[k].a; rotate_left; have hno : ¬ ((p.funcs[nb]'hnb).code[k].op = 30 /\ 0 <= (p.funcs[nb]'hnb).code[k].a) := (fun h => r2 h.2); rotate_right; have hgl2 := hgl r1; have hgm := hV.rok hnb (a := (p.funcs[nb]'hnb).code[k].a) ⟨r2, by omega⟩; have g4 : ((p.funcs[nb]'hnb).code[k].a).toNat < nr2 := (by omega); have g5 : (p.funcs[nb]'hnb).code[k].a < (nr2 : Int) := (by omega))
  | ((with_reducible refine mdH ?_); refine a2l hfk (fun d hd => ?_) rfl (b4g (.r f X.a.toNat) (SL.r nb ((p.funcs[nb]'hnb).code[k].a).toNat).loc hCT hB (by decide) hV hga (hV.gets (.r nb ((p.funcs[nb]'hnb).code[k].a).toNat)) (a5u hgm) rfl ?_) ?_; (focus (cases hd; exact lbR rfl)); (focus (first | rfl | (simp [ninL, ninO, a2u, nins, nin, a0e, a0m, a0c, a0v, a0a, a0b, a1j, mapO, a1o, a0p, a0k, hdN, *]; done))); (rintro r' H' ⟨rfl, V2, v2_, rfl, hV2, hT4⟩))
  | ((with_reducible refine a0q ?_); refine a1b (⟨(k + 1, (V2, v2_)), by omega, hV2, hT3.stepk hT4 (f6p hlk r1 r2)⟩) (gk3i (j := 2) [] (hB _ _ _ _ hy hV2) ?_ ?_ ?_ ?_ ?_ ?_ ?_) ?_; (iterate 7 (focus (first | rfl | (simp [LPXB, *, SIMB, hdN, injB, fB, a1k, a1d, a1i, hdN, a0p, a0k, a0b]; done)))); (focus (dsimp only; omega)))
  | ((with_reducible refine a0q ?_); refine a1b (⟨(k + 1, (V, v)), by omega, hV, hT3.congr (f6q hlk hno)⟩) (gk3i (j := 2) [] (hB _ _ _ _ hy hV) ?_ ?_ ?_ ?_ ?_ ?_ ?_) ?_; (iterate 7 (focus (first | rfl | (simp [LPXB, *, SIMB, hdN, injB, fB, a1k, a1d, a1i, hdN, a0p, a0k, a0b]; done)))); (focus (dsimp only; omega)))
  | ((with_reducible refine lfH ?_); refine a6j (j := 2) (hB _ _ _ _ hy hV) rfl ⟨rfl, V, v, rfl, hV, hT1.callY hT3 ⟨q1, by omega⟩⟩ trivial)
  | with_reducible first | refine a4e ?_ | refine a6g ?_ | refine a2j (id := 1) 10 a0y (by kernel_rfl) fun K hK => ?_ | refine stp ?_ | refine stpK ?_; intro K hK | refine stpC ?_; intro T E hT hE | refine stp2 ?_ ?_ <;> intro h | refine a0g rfl ?_ | refine a0j rfl (lbR rfl) a0i ?_ | refine a0j rfl (lbR rfl) (a0h (by simp [HPXB, a1i, fB, ext, upd, *])) ?_ | refine a1g (by decide) (by kernel_rfl) ?_ | refine a0o (by decide) ?_ | refine Kont.go hK ?_; clear hK K | refine KT.go hT ?_; clear hT hE T E | refine KT.go hE ?_; clear hT hE T E
  | simp [*, -List.all_flatten, -List.all_eq_true, DEFM, fB, a1k, a1d, a1i, hdN, a0p, a0k, a0u, a0r, a0s, a1y, a1z, a2a, anR, a5y, a5x, a2z, a3j, a2p, MG_t, MG_f, rmvs, a1c, a2o, a0x, a2b, a0b, a0e, FnD.row, Ins.row]
theorem c9n {p : Pg} (hp : VOk p) {B : Heap} {Y : Pts} {g : Bool} (hy : Shp p Y) (hB : BsM p 1 B) (o : Int) : FC Tryz.prog Gl 202 [.ptr [81] 8 0 0, .int .i64 o] (HP [] B (MF p Y g)) (.bool (wrR p Y o)) (HP [] B (MF p Y g)) := by
 have hsv := a2t hp
 have fB : ∀ r, B (1 :: r) = none := fun r => (hB Y g Y g hy hy).fb 1 r (by decide)
 have y3 := hy.rn
 have hi2 : ∀ (L : List (FM.Loc × FO)), inH (HP L B (MF p Y g)) [81] := fun L => a2n a2z
 refine a5n (res := [.tmp 4]) 9 63 [15, 14, 13, 23, 22, 21, 28] (fun d ix => 1 :: d :: ix) (fn := Tryz.f202) (by kernel_rfl) (by rfl) (by rfl) (by rfl) (by simp) (by decide) ?_
 repeat' first
  | with_reducible first | refine a2j (id := 10) 12 a0y (by kernel_rfl) fun K hK => ?_ | refine a2j (id := 14) 12 a0y (by kernel_rfl) fun K hK => ?_
  | ((with_reducible refine a1a ?_); refine a1q (σ := {i : Nat // i <= p.funcs.length /\ noW p Y o i 0}) (fun y => [(5, .undef), (6, .undef), (7, .undef), (8, .undef)]) [14, 13] (fun y => [(15, .int .i64 (y.1 : Int))]) [[1, 6], [1, 8]] (fun y => []) (fun y => MF p Y g) (fun y => p.funcs.length - y.1) ⟨0, by simp, f7i p Y o⟩ (gk3i (j := 1) [] (hB _ _ _ _ hy hy) ?_ ?_ ?_ ?_ ?_ ?_ ?_) ?_; (iterate 7 (focus (first | rfl | (simp [LPXB, *, SIMB, hdN, injB, fB, a1k, a1d, a1i, hdN, a0p, a0k]; done)))); rintro ⟨i, hi, hk⟩; simp only [lpS, LPXB]; (try dsimp only at hi hk); rcases a0z hi with hlt | ⟨hlt, rfl⟩; rotate_left; have e := f0b hk; rotate_left; have wi := wli hlt (by have := hp.nf; omega); have hcv := d6r hp hlt; obtain ⟨y1, y2⟩ := hy.at hlt; have hrr := hp.regs (gm_ hlt); obtain ⟨nr, hnr⟩ : ∃ nr : Nat, (p.funcs[i]'hlt).regs = (nr : Int) := ⟨(p.funcs[i]'hlt).regs.toNat, by have := hrr.p0; have := hrr.p1; omega⟩; rw [hnr, tN_] at y2)
  | ((with_reducible refine a1a ?_); refine a1q (σ := {j : Nat // j <= (p.funcs[i]'hlt).code.length /\ noW p Y o i j}) (fun y => [(7, .undef), (8, .undef)]) [22, 21, 15, 14, 13] (fun y => [(23, .int .i64 (y.1 : Int))]) [[1, 8]] (fun y => []) (fun y => MF p Y g) (fun y => (p.funcs[i]'hlt).code.length - y.1) ⟨0, by simp, hk⟩ (gk3i (j := 1) [] (hB _ _ _ _ hy hy) ?_ ?_ ?_ ?_ ?_ ?_ ?_) ?_; (iterate 7 (focus (first | rfl | (simp [LPXB, *, SIMB, hdN, injB, fB, a1k, a1d, a1i, hdN, a0p, a0k]; done)))); rintro ⟨j, hj, hkj⟩; simp only [lpS, LPXB]; (try dsimp only at hj hkj); rcases a0z hj with hlk | ⟨hlk, rfl⟩; have wk := wli hlk (by omega); rcases wr5 ((p.funcs[i]'hlt).code[j]'hlk).op with q1 | ⟨q1, q2⟩ | ⟨q1, q2, q3⟩ | ⟨q1, q2, q3, q4⟩ | ⟨q1, q2, q3, q4⟩; (have hra := c7m hp hlt hlk (by rw [q1]; decide); obtain ⟨r3, r4⟩ := id hra; have r2 : ((p.funcs[i]'hlt).code[j]'hlk).a.toNat < nr := (by omega); have r5 : ((p.funcs[i]'hlt).code[j]'hlk).a < (nr : Int) := (by omega); have hok := hy.rok hlt hra; by_cases hm : o ∈ getS Y (.r i ((p.funcs[i]'hlt).code[j]'hlk).a.toNat); have e := c1i (x := Y) (o := o) hlt hlk (by simp only [wrI]; rw [a6p] at hm; first | exact .inl ⟨by omega, hm⟩ | exact .inr ⟨by omega, hm⟩)); rotate_left; rotate_left; (have hra := c7m hp hlt hlk (by rw [q2]; decide); obtain ⟨r3, r4⟩ := id hra; have r2 : ((p.funcs[i]'hlt).code[j]'hlk).a.toNat < nr := (by omega); have r5 : ((p.funcs[i]'hlt).code[j]'hlk).a < (nr : Int) := (by omega); have hok := hy.rok hlt hra; by_cases hm : o ∈ getS Y (.r i ((p.funcs[i]'hlt).code[j]'hlk).a.toNat); have e := c1i (x := Y) (o := o) hlt hlk (by simp only [wrI]; rw [a6p] at hm; first | exact .inl ⟨by omega, hm⟩ | exact .inr ⟨by omega, hm⟩)); rotate_left; rotate_left; (have hra := c7l hp hlt hlk (by rw [q3]; decide); obtain ⟨r3, r4⟩ := id hra; have r2 : ((p.funcs[i]'hlt).code[j]'hlk).b.toNat < nr := (by omega); have r5 : ((p.funcs[i]'hlt).code[j]'hlk).b < (nr : Int) := (by omega); have hok := hy.rok hlt hra; by_cases hm : o ∈ getS Y (.r i ((p.funcs[i]'hlt).code[j]'hlk).b.toNat); have e := c1i (x := Y) (o := o) hlt hlk (by simp only [wrI]; rw [a6p] at hm; first | exact .inl ⟨by omega, hm⟩ | exact .inr ⟨by omega, hm⟩)); rotate_left; rotate_left; (have hra := c7l hp hlt hlk (by rw [q4]; decide); obtain ⟨r3, r4⟩ := id hra; have r2 : ((p.funcs[i]'hlt).code[j]'hlk).b.toNat < nr := (by omega); have r5 : ((p.funcs[i]'hlt).code[j]'hlk).b < (nr : Int) := (by omega); have hok := hy.rok hlt hra; by_cases hm : o ∈ getS Y (.r i ((p.funcs[i]'hlt).code[j]'hlk).b.toNat); have e := c1i (x := Y) (o := o) hlt hlk (by simp only [wrI]; rw [a6p] at hm; first | exact .inl ⟨by omega, hm⟩ | exact .inr ⟨by omega, hm⟩)); rotate_left; rotate_left)
  | ((with_reducible refine a0q ?_); refine a1b (⟨j + 1, by omega, f7g hkj hlt hlk (by simp only [wrI]; first | (rw [a6p] at hm; rintro (⟨h', hm'⟩ | ⟨h', hm'⟩) <;> first | omega | exact hm hm') | omega)⟩) (gk3i (j := 1) [] (hB _ _ _ _ hy hy) ?_ ?_ ?_ ?_ ?_ ?_ ?_) ?_; (iterate 7 (focus (first | rfl | (simp [LPXB, *, SIMB, hdN, injB, fB, a1k, a1d, a1i, hdN, a0p, a0k]; done)))); (focus (dsimp only; omega)))
  | ((with_reducible refine a0q ?_); refine a1b (⟨i + 1, by omega, f7h hlt hkj⟩) (gk3i (j := 1) [] (hB _ _ _ _ hy hy) ?_ ?_ ?_ ?_ ?_ ?_ ?_) ?_; (iterate 7 (focus (first | rfl | (simp [LPXB, *, SIMB, hdN, injB, fB, a1k, a1d, a1i, hdN, a0p, a0k]; done)))); (focus (dsimp only; omega)))
  | ((with_reducible refine cgH ?_); refine a7a rfl (d1j (t := SL.r i ((p.funcs[i]'hlt).code[j]'hlk).a.toNat) _ hB (by decide) hy hok ?_ ?_) ?_; (focus rfl); (focus (first | rfl | (simp [ninL, ninO, a2u, nins, nin, a0e, a0m, a0c, a0v, a0a, a0b, a1j, mapO, a1o, a0p, a0k, hdN, *]; done))))
  | ((with_reducible refine cgH ?_); refine a7a rfl (d1j (t := SL.r i ((p.funcs[i]'hlt).code[j]'hlk).b.toNat) _ hB (by decide) hy hok ?_ ?_) ?_; (focus rfl); (focus (first | rfl | (simp [ninL, ninO, a2u, nins, nin, a0e, a0m, a0c, a0v, a0a, a0b, a1j, mapO, a1o, a0p, a0k, hdN, *]; done))))
  | ((with_reducible refine c2j (j := 1) (hB _ _ _ _ hy hy) ?_ ?_ ?_ ?_); (iterate 2 (focus rfl)); (focus (first | rfl | (simp [*]; done))); focus (first | trivial | (simp [nin, nins, a3n, inH, HPXB]; done)))
  | with_reducible first | refine stp ?_ | refine stpK ?_; intro K hK | refine stpC ?_; intro T E hT hE | refine stp2 ?_ ?_ <;> intro h | refine a0g rfl ?_ | refine a0j rfl (lbR rfl) a0i ?_ | refine a0j rfl (lbR rfl) (a0h (by simp [HPXB, a1i, fB, ext, upd, *])) ?_ | refine a1g (by decide) (by kernel_rfl) ?_ | refine a0o (by decide) ?_ | refine Kont.go hK ?_; clear hK K | refine KT.go hT ?_; clear hT hE T E | refine KT.go hE ?_; clear hT hE T E
  | simp [*, -List.all_flatten, -List.all_eq_true, DEFM, fB, a1k, a1d, a1i, hdN, a0p, a0k, a0u, a0r, a0s, a1y, a1z, a2a, anR, a5y, a5x, a2z, a3j, a2p, MG_t, MG_f, rmvs, a1c, a2o, a0x, a2b, a0b, a0e, FnD.row, Ins.row]
 all_goals first
  | (simp [f0b hk]; done)
  | (have e := c1i (x := Y) (o := o) hlt hlk (by simp only [wrI]; rw [a6p] at hm; first | exact .inl ⟨by omega, hm⟩ | exact .inr ⟨by omega, hm⟩); simp [e]; done)
  | trace_state
theorem c2o {L : List Int} {i : Nat} (h : i < L.length) : (ints L)[i]? = some [.int .i64 L[i]] := by simp [ints, a2f, h]
theorem c2n (L : List Int) (i : Nat) (v : Int) (h : i < L.length) : (ints L).modify i (fun r => FV.int .i64 v :: r.tail) = ints (L.set i v) := by
 refine List.ext_getElem (by simp [ints]) fun j h1 h2 => ?_
 rw [List.getElem_modify]
 split
 . rename_i e
   subst e
   simp [ints, a2f]
 . rename_i e
   simp [ints, List.getElem_set_ne e]
theorem c0g (n : Nat) (v : Int) : List.replicate n [FV.int .i64 v] = ints (List.replicate n v) := by simp [ints, a2f]
def bRow (b : Nat × Nat) (v : FV) : List FV := [.int .i64 b.1, .int .i64 b.2, v]
def brs (B : List (Nat × Nat)) : List (List FV) := B.map fun b => bRow b .nils
def bxV (c : List Ins) (B : List (Nat × Nat)) : List (List FV) := B.map fun b => bRow b (.list 1 (ints (nxB c b)))
def bmx (c : List Ins) (j : Nat) : List (List FV) := bxV c ((blks c).take j) ++ brs ((blks c).drop j)
def bmj (c : List Ins) (j : Nat) (b : Nat × Nat) (v : FV) : List (List FV) := bxV c ((blks c).take j) ++ bRow b v :: brs ((blks c).drop (j + 1))
theorem a2y (B : List (Nat × Nat)) : (brs B).length = B.length := by simp [brs]
theorem a2x (c : List Ins) (B : List (Nat × Nat)) : (bxV c B).length = B.length := by simp [bxV]
theorem d7f {c : List Ins} {j : Nat} : (bmx c j).length = (blks c).length := by simp [bmx, a2y, a2x]; omega
theorem b1r {c : List Ins} {j : Nat} (h : j < (blks c).length) (b : Nat × Nat) (v : FV) : (bmj c j b v).length = (blks c).length := by simp [bmj, a2y, a2x]; omega
theorem a2m : ∀ B : List (Nat × Nat), nlss (brs B) = true
 | [] => rfl
 | _ :: B => by simpa [brs, nlss, nls, nl, bRow] using a2m B
theorem a2q (c : List Ins) : ∀ B : List (Nat × Nat), nlss (bxV c B) = true
 | [] => rfl
 | b :: B => by simpa [bxV, nlss, nls, nl, bRow, a0a] using a2q c B
theorem b2e (c : List Ins) (j : Nat) : nlss (bmx c j) = true := by rw [bmx, a4q, a2q, a2m]; rfl
theorem b7d (A B : List (Nat × Nat)) : brs (A ++ B) = brs A ++ brs B := by simp [brs]
theorem b7c (b : Nat × Nat) : brs [b] = [[.int .i64 b.1, .int .i64 b.2, .nils]] := rfl
theorem d7e : brs [] = [] := rfl
theorem f9m (c : List Ins) : bmx c 0 = brs (blks c) := by simp [bmx, bxV]
theorem e9d (c : List Ins) : bmx c (blks c).length = bxV c (blks c) := by simp [bmx, brs]
theorem f9l {c : List Ins} {j : Nat} (h : j < (blks c).length) : bmx c j = bmj c j (blks c)[j] .nils := by
 unfold bmx bmj
 rw [List.drop_eq_getElem_cons h]; rfl
theorem f9n {c : List Ins} {j : Nat} (h : j < (blks c).length) : bmj c j (blks c)[j] (.list 1 (ints (nxB c (blks c)[j]))) = bmx c (j + 1) := by
 unfold bmx bmj
 rw [List.take_succ_eq_append_getElem h]
 unfold bxV
 rw [List.map_append, List.append_assoc]; rfl
theorem d7h {c : List Ins} {j : Nat} (h : j < (blks c).length) (b : Nat × Nat) (v : FV) : (bmj c j b v)[j]? = some (bRow b v) := by
 unfold bmj
 have e : (bxV c ((blks c).take j)).length = j := by rw [a2x, List.length_take]; omega
 rw [List.getElem?_append_right (by omega), e, Nat.sub_self]; rfl
theorem d7g {c : List Ins} {j : Nat} (h : j < (blks c).length) (b : Nat × Nat) (v : FV) (h' : j < (bmj c j b v).length) : (bmj c j b v)[j] = bRow b v := by
 have := d7h h b v
 rw [gE_ h'] at this
 exact sI_ this
theorem e9e {c : List Ins} {j : Nat} (h : j < (blks c).length) (b : Nat × Nat) (v u : FV) (g : List FV -> List FV) (hg : g (bRow b v) = bRow b u) : (bmj c j b v).modify j g = bmj c j b u := by
 unfold bmj
 have e : (bxV c ((blks c).take j)).length = j := by rw [a2x, List.length_take]; omega
 refine List.ext_getElem? fun i => ?_
 rw [List.getElem?_modify]
 by_cases h1 : i < j
 . rw [List.getElem?_append_left (by omega), List.getElem?_append_left (by omega)]
   have : ¬ j = i := by omega
   simp [this]
 . rw [List.getElem?_append_right (by omega), List.getElem?_append_right (by omega), e]
   by_cases h2 : i = j
   . subst h2
     simp [hg]
   . obtain ⟨q, hq⟩ : ∃ q, i - j = q + 1 := ⟨i - j - 1, by omega⟩
     have : ¬ j = i := by omega
     rw [hq]
     simp [this]
theorem b5s (β : FM.Loc -> Option FM.Loc) (c : List Ins) (j : Nat) (b : Nat × Nat) (v : FV) : renss β (bmj c j b v) = bmj c j b (ren β v) := by
 unfold bmj
 rw [a8c, b0h (a2q c _)]
 show _ ++ (rens β (bRow b v) :: renss β _) = _
 rw [b0h (a2m _)]
 rfl
theorem b6f (β : FM.Loc -> Option FM.Loc) (U : FM.Loc -> Prop) (c : List Ins) (j : Nat) (b : Nat × Nat) (v : FV) : a6v β U (bmj c j b v) ↔ inn β U v := by
 unfold bmj
 rw [a8i]
 constructor
 . intro h; exact h.2.1.2.2.1
 . intro h; exact ⟨b0o (a2q c _), ⟨trivial, trivial, h, trivial⟩, b0o (a2m _)⟩
theorem d5m (l0 : FM.Loc) (sz0 : Nat) (xs0 : List (List FV)) (c : List Ins) (j : Nat) (b : Nat × Nat) (v : FV) : fzss l0 sz0 xs0 (bmj c j b v) = bmj c j b (fz l0 sz0 xs0 v) := by
 unfold bmj
 rw [a7n, b3f (a2q c _)]
 show _ ++ (fzs l0 sz0 xs0 (bRow b v) :: fzss l0 sz0 xs0 _) = _
 rw [b3f (a2m _)]
 rfl
theorem e4e {c : List Ins} {j : Nat} (h : j < (blks c).length) (b : Nat × Nat) (v u : FV) : (bmj c j b v).modify j (fun r => List.take 2 r ++ u :: List.drop 3 r) = bmj c j b u := e9e h b v u _ rfl
def rawN (c : List Ins) (h q : Nat) : List Int := ((nx c h).take q).map fun v => (nmF c v.toNat : Int)
theorem c6o {c : List Ins} {h q : Nat} (hq : q <= (nx c h).length) : (rawN c h q).length = q := by simp [rawN]; omega
theorem e3b (c : List Ins) (h : Nat) : rawN c h 0 = [] := by simp [rawN]
theorem e3a {c : List Ins} {h q : Nat} (hq : q < (nx c h).length) : rawN c h (q + 1) = rawN c h q ++ [(nmF c (nx c h)[q].toNat : Int)] := by
 unfold rawN
 rw [List.take_succ_eq_append_getElem hq, List.map_append]; rfl
theorem c6p {c : List Ins} (b : Nat × Nat) : (rawN c (hd c (b.2 - 1)) (nx c (hd c (b.2 - 1))).length).foldl a1x [] = nxB c b := by
 unfold rawN nxB
 rw [List.take_length]
theorem f2t (c : List Ins) : ((List.replicate (c.length + 1) false).set 0 true).set c.length true = ldA c [0, (c.length : Int)] 0 := by
 rw [f7r]
 simp [mkL, mk1]
theorem c6w (c : List Ins) : ∀ k, nmF c k <= k
 | 0 => nr_ _
 | k + 1 => by
   have := c6w c k
   by_cases hl : (a3e c)[k + 1]? = some true
   . have : nmF c (k + 1) = nmF c k + 1 := by rw [nmF, c1a hl, List.length_append]; rfl
     omega
   . have : nmF c (k + 1) = nmF c k := by rw [nmF, c1b hl]; rfl
     omega
theorem c6d {w : World} {F : Nat -> Prop} {U : FM.Loc -> Prop} {m : FM.Loc -> Nat × Nat} {l : FM.Loc} {v : Value} (h : RF w F U m (.sl l 1 0 0) v) : ∃ A cap, v = .slice A 0 cap := by
 cases h with
 | sl _ _ _ _ cap o => exact ⟨_, _, rfl⟩
 | sl0 _ _ _ A => exact ⟨_, _, rfl⟩
theorem d1o {H : Heap} {l : FM.Loc} {s : List Int} {n : Nat} (hn : s.length = n) (hl : H l = some (.cells 3 1 (ints s))) (hz : n < 4611686018427387904) : FC Tryz.prog Gl 132 [.sl l 1 0 n] H (.tup []) (upd H l (.cells 3 1 (ints (srt s)))) := by
 by_cases e : s = []
 . subst e
   subst hn
   have e2 : upd H l (.cells 3 1 (ints (srt []))) = H := by rw [show srt [] = [] by simp [srt]]; exact b0e hl
   rw [e2]
   refine b5f fun w F m vs hF hG hv hH => ?_
   obtain ⟨v, rfl, g⟩ := hv.single
   obtain ⟨A, cap, rfl⟩ := c6d g
   have h : Calls Tryz.prog 132 #[.slice A 0 cap] w _ := Any.slices_Sort_int_none sL A cap w
   refine h.mono ?_
   rintro e w' ⟨rfl, rfl⟩
   exact ⟨_, rfl, Go.RowKit.Below.refl _ _, .tup [] [] .nil⟩
 . exact d1n hn hl e hz
theorem b7z {H : Heap} {l : FM.Loc} {s : List Int} {n : Nat} (hn : s.length = n) (hl : H l = some (.cells 3 1 (ints s))) (hz : n < 4611686018427387904) : FC Tryz.prog Gl 133 [.sl l 1 0 n] H (.sl l 1 0 (Lib.compact s).length) (upd H l (.cells 3 1 (ints (Lib.compact s ++ List.replicate (s.length - (Lib.compact s).length) 0)))) := by
 by_cases e : s = []
 . subst e
   subst hn
   have e2 : upd H l (.cells 3 1 (ints (Lib.compact [] ++ List.replicate (([] : List Int).length - (Lib.compact ([] : List Int)).length) 0))) = H := b0e hl
   rw [e2]
   refine b5f fun w F m vs hF hG hv hH => ?_
   obtain ⟨v, rfl, g⟩ := hv.single
   have g' := g
   obtain ⟨A, cap, rfl⟩ := c6d g
   have h : Calls Tryz.prog 133 #[.slice A 0 cap] w _ := Any.slices_Compact_int_empty cpL A cap w
   refine h.mono ?_
   rintro e w' ⟨rfl, rfl⟩
   exact ⟨_, rfl, Go.RowKit.Below.refl _ _, g'⟩
 . exact b7y hn hl e hz
structure DS where
 l : List Bool
 od : List Int
 on : Option Nat
 H : Heap
def onV (on : Option Nat) (n : Nat) : FV := match on with
 | none => .nils
 | some k => .sl [1, 100 + k, 33] 1 0 n
def d0a (on : Option Nat) (H : Heap) : Heap := match on with
 | none => H
 | some k => upd H [1, 100 + k, 33] .dead
def dsA (S : DS) (b : Int) : DS := ⟨mk1 S.l b, S.od, S.on, upd S.H [1, 14] (.cells 4 1 (a2h (mk1 S.l b)))⟩
def dsZ (u : Nat) (S : DS) (b : Int) : DS := ⟨S.l, S.od ++ [b], some u, upd (upd (d0a S.on (upd S.H [1, 100 + u, 32] (.cells 3 1 [[.int .i64 b]]))) [1, 100 + u, 33] (.cells 3 1 (ints (S.od ++ [b])))) [1, 5] (.cells 36 1 [[.sl [1, 100 + u, 33] 1 0 (S.od.length + 1)]])⟩
def b4e (c : List Ins) : Nat -> DS -> Int -> DS
 | 0, S, _ => S
 | m + 1, S, b => dsZ (S.l.count false) ((nxN c b.toNat).foldl (fun S v => if S.l[v.toNat]? = some true then S else b4e c m S v) (dsA S b)) b
def kidK (c : List Ins) (m : Nat) (S : DS) (s : List Int) : DS := s.foldl (fun S v => if S.l[v.toNat]? = some true then S else b4e c m S v) S
theorem d4j (c : List Ins) (m : Nat) (S : DS) {s : List Int} {k : Nat} (h : k < s.length) : kidK c m S (s.take (k + 1)) = if (kidK c m S (s.take k)).l[s[k].toNat]? = some true then kidK c m S (s.take k) else b4e c m (kidK c m S (s.take k)) s[k] := by
 unfold kidK
 rw [List.take_succ_eq_append_getElem h, List.foldl_append]
 rfl
theorem d2b (c : List Ins) (m : Nat) (S : DS) (b : Int) : b4e c (m + 1) S b = dsZ (S.l.count false) (kidK c m (dsA S b) (nxN c b.toNat)) b := rfl
def cloS : FV := .clo 135 [] [.ptr [1, 4] 1 0 0, .ptr [1, 3] 1 0 0, .ptr [1, 6] 1 0 0, .ptr [1, 5] 1 0 0]
structure DSok (c : List Ins) (S : DS) : Prop where
 len : S.l.length = (blks c).length
 h3 : S.H [1, 3] = some (.cells 84 1 [[.list 3 (bxV c (blks c))]])
 h4 : S.H [1, 4] = some (.cells 37 1 [[.sl [1, 14] 1 0 (blks c).length]])
 h14 : S.H [1, 14] = some (.cells 4 1 (a2h S.l))
 h6 : S.H [1, 6] = some (.cells 174 1 [[cloS]])
 h5 : S.H [1, 5] = some (.cells 36 1 [[onV S.on S.od.length]])
 hn : S.on = none -> S.od = []
 ho : ∀ k, S.on = some k -> S.H [1, 100 + k, 33] = some (.cells 3 1 (ints S.od)) /\ S.l.count false < k
 fr : ∀ k, k <= S.l.count false -> ∀ r, S.H (1 :: (100 + k) :: r) = none
 sz : S.od.length + S.l.count false <= (blks c).length
structure Mid (c : List Ins) (S T : DS) : Prop where
 ok : DSok c T
 up : ∀ v, isM S.l v -> isM T.l v
 cl : ∀ v, isM T.l v -> isM S.l v \/ ∀ w ∈ nxN c v.toNat, isM T.l w
 od : ∀ v, v ∈ T.od ↔ v ∈ S.od \/ (isM T.l v /\ ¬ isM S.l v)
 ct : T.l.count false <= S.l.count false
 sz : T.od.length + T.l.count false <= S.od.length + S.l.count false
 kp : ∀ q, S.l.count false < q -> S.on ≠ some q -> (∀ r, S.H (1 :: (100 + q) :: r) = none) -> (∀ r, T.H (1 :: (100 + q) :: r) = none) /\ T.on ≠ some q
structure Did (c : List Ins) (b : Int) (S T : DS) : Prop extends Mid c S T where
 mb : isM T.l b
 rc : RB c b.toNat -> (∀ v, isM S.l v -> RB c v.toNat) -> ∀ v, isM T.l v -> RB c v.toNat
theorem Mid.refl {c : List Ins} {S : DS} (h : DSok c S) : Mid c S S := ⟨h, fun _ h => h, fun _ h => .inl h, fun v => ⟨.inl, fun h => h.elim id fun h => absurd h.1 h.2⟩, nr_ _, nr_ _, fun _ _ h1 h2 => ⟨h2, h1⟩⟩
theorem Mid.trans {c : List Ins} {S T U : DS} (h : Mid c S T) (h' : Mid c T U) : Mid c S U := by
 refine ⟨h'.ok, fun v hv => h'.up v (h.up v hv), fun v hv => ?_, fun v => ?_, Nat.le_trans h'.ct h.ct, Nat.le_trans h'.sz h.sz, fun q h1 h2 h3 => ?_⟩
 . rcases h'.cl v hv with h1 | h1
   . rcases h.cl v h1 with h2 | h2
     . exact .inl h2
     . exact .inr fun w hw => h'.up w (h2 w hw)
   . exact .inr h1
 . rw [h'.od v, h.od v]
   constructor
   . rintro ((h1 | ⟨h1, h2⟩) | ⟨h1, h2⟩)
     . exact .inl h1
     . exact .inr ⟨h'.up v h1, h2⟩
     . exact .inr ⟨h1, fun h3 => h2 (h.up v h3)⟩
   . rintro (h1 | ⟨h1, h2⟩)
     . exact .inl (.inl h1)
     . by_cases h3 : isM T.l v
       . exact .inl (.inr ⟨h3, h2⟩)
       . exact .inr ⟨h1, h3⟩
 . obtain ⟨g1, g2⟩ := h.kp q h1 h2 h3
   exact h'.kp q (Nat.lt_of_le_of_lt h.ct h1) g2 g1
theorem a7e {H : Heap} {l k : FM.Loc} {o : FO} (h : k ≠ l) : upd H l o k = H k := by simp [upd, h]
theorem c3k {H : Heap} {l : FM.Loc} {o : FO} : upd H l o l = some o := by simp [upd]
theorem c0e {on : Option Nat} {H : Heap} {k : FM.Loc} (h : ∀ q, on = some q -> k ≠ [1, 100 + q, 33]) : d0a on H k = H k := by
 cases on with
 | none => rfl
 | some q => exact a7e (h q rfl)
theorem c2f {S : DS} {nb : Nat} (hl : S.l.length = nb) {b : Int} (h0 : 0 <= b) (h1 : b < (nb : Int)) (hm : ¬ isM S.l b) : (mk1 S.l b).count false + 1 = S.l.count false := d6x h0 (by omega) fun h => hm ⟨h0, h⟩
theorem e3y {c : List Ins} {S : DS} (h : DSok c S) {b : Int} (h0 : 0 <= b) (h1 : b < ((blks c).length : Int)) (hm : ¬ isM S.l b) : DSok c (dsA S b) := by
 have hc := c2f h.len h0 h1 hm
 have L : ∀ k : FM.Loc, k ≠ [1, 14] -> (dsA S b).H k = S.H k := fun k hk => a7e hk
 have hl : (dsA S b).l.length = (blks c).length := by rw [show (dsA S b).l = mk1 S.l b from rfl, b3b]; exact h.len
 have h14 : (dsA S b).H [1, 14] = some (.cells 4 1 (a2h (dsA S b).l)) := by
  show upd S.H [1, 14] (.cells 4 1 (a2h (mk1 S.l b))) [1, 14] = _
  exact c3k
 refine ⟨hl, (L [1, 3] (by decide)).trans h.h3, (L [1, 4] (by decide)).trans h.h4, h14, (L [1, 6] (by decide)).trans h.h6, (L [1, 5] (by decide)).trans h.h5, h.hn, fun k hk => ?_, fun k hk r => ?_, ?_⟩
 . obtain ⟨g1, g2⟩ := h.ho k hk
   refine ⟨(L _ (by simp)).trans g1, ?_⟩
   show (mk1 S.l b).count false < k
   omega
 . have hk' : k <= (mk1 S.l b).count false := hk
   refine (L _ ?_).trans (h.fr k (by omega) r)
   intro e
   simp only [List.cons.injEq] at e
   omega
 . have := h.sz
   show S.od.length + (mk1 S.l b).count false <= _
   omega
theorem f4e {c : List Ins} {T : DS} (h : DSok c T) {b : Int} {u : Nat} (hu : T.l.count false < u) (hf : ∀ r, T.H (1 :: (100 + u) :: r) = none) (hon : T.on ≠ some u) (hz : T.od.length + 1 + T.l.count false <= (blks c).length) : DSok c (dsZ u T b) := by
 have low : ∀ k : FM.Loc, k.length = 2 -> k ≠ [1, 5] -> (dsZ u T b).H k = T.H k := fun k hk h5 => by
  show upd (upd (d0a T.on (upd T.H [1, 100 + u, 32] _)) [1, 100 + u, 33] _) [1, 5] _ k = _
  rw [a7e h5, a7e (by intro e; rw [e] at hk; simp at hk), c0e (fun q _ e => by rw [e] at hk; simp at hk), a7e (by intro e; rw [e] at hk; simp at hk)]
 refine ⟨h.len, (low [1, 3] rfl (by decide)).trans h.h3, (low [1, 4] rfl (by decide)).trans h.h4, (low [1, 14] rfl (by decide)).trans h.h14, (low [1, 6] rfl (by decide)).trans h.h6, ?_, fun e => (by cases e), fun k hk => ?_, fun k hk r => ?_, ?_⟩
 . simp only [dsZ, onV, List.length_append, List.length_singleton]
   exact c3k
 . have : u = k := sI_ hk
   subst this
   refine ⟨?_, hu⟩
   simp only [dsZ]
   rw [a7e (by simp), c3k]
 . have hk' : k <= T.l.count false := hk
   have hku : k ≠ u := by omega
   show upd (upd (d0a T.on (upd T.H [1, 100 + u, 32] _)) [1, 100 + u, 33] _) [1, 5] _ (1 :: (100 + k) :: r) = none
   rw [a7e (by intro e; simp only [List.cons.injEq] at e; omega), a7e (by intro e; simp only [List.cons.injEq] at e; omega), c0e (fun q hq e => by
    simp only [List.cons.injEq] at e
    have := (h.ho q hq).2
    omega), a7e (by intro e; simp only [List.cons.injEq] at e; omega)]
   exact h.fr k hk' r
 . show (T.od ++ [b]).length + T.l.count false <= _
   rw [List.length_append]
   simpa using hz
theorem did {c : List Ins} (hc : CodeOk c) : ∀ (m : Nat) (S : DS) (b : Int), DSok c S -> S.l.count false <= m -> 0 <= b -> b < ((blks c).length : Int) -> ¬ isM S.l b -> Did c b S (b4e c m S b)
 | 0, S, b, h, hm, h0, h1, hb => by
   have := c2f h.len h0 h1 hb
   omega
 | m + 1, S, b, h, hm, h0, h1, hb => by
   have hcn := c2f h.len h0 h1 hb
   have hA := e3y h h0 h1 hb
   have hcA : (dsA S b).l.count false + 1 = S.l.count false := hcn
   have hbA : ∀ v, isM (dsA S b).l v ↔ isM S.l v \/ v = b := fun v => c0f h0 (by have := h.len; omega)
   have kids : ∀ k, k <= (nxN c b.toNat).length -> Mid c (dsA S b) (kidK c m (dsA S b) ((nxN c b.toNat).take k)) /\ (∀ j (hj : j < (nxN c b.toNat).length), j < k -> isM (kidK c m (dsA S b) ((nxN c b.toNat).take k)).l (nxN c b.toNat)[j]) /\
    (RB c b.toNat -> (∀ v, isM (dsA S b).l v -> RB c v.toNat) -> ∀ v, isM (kidK c m (dsA S b) ((nxN c b.toNat).take k)).l v -> RB c v.toNat) := fun k => by
    induction k with
    | zero => exact fun _ => ⟨Mid.refl hA, fun j _ h => by omega, fun _ h => h⟩
    | succ k ih =>
      intro hk
      obtain ⟨i1, i2, i3⟩ := ih (by omega)
      have hv := c2b hc (gm_ (show k < (nxN c b.toNat).length by omega))
      rw [d4j c m _ (show k < (nxN c b.toNat).length by omega)]
      split
      . rename_i hM
        refine ⟨i1, fun j hj hjk => ?_, i3⟩
        by_cases e : j = k
        . subst e; exact ⟨hv.1, hM⟩
        . exact i2 j hj (by omega)
      . rename_i hM
        have hD := did hc m _ _ i1.ok (by have := i1.ct; omega) hv.1 hv.2 fun h => hM h.2
        refine ⟨i1.trans hD.toMid, fun j hj hjk => ?_, fun r1 r2 => hD.rc (RB.step r1 (gm_ _)) (i3 r1 r2)⟩
        by_cases e : j = k
        . subst e; exact hD.mb
        . exact hD.up _ (i2 j hj (by omega))
   obtain ⟨K1, K2, K3⟩ := kids (nxN c b.toNat).length (nr_ _)
   rw [List.take_length] at K1 K2 K3
   rw [d2b]
   generalize kidK c m (dsA S b) (nxN c b.toNat) = T at K1 K2 K3
   have onA : ∀ q, S.on = some q -> S.l.count false < q := fun q hq => (h.ho q hq).2
   have hfu : ∀ r, (dsA S b).H (1 :: (100 + S.l.count false) :: r) = none := fun r => (a7e (by intro e; simp only [List.cons.injEq] at e; omega)).trans (h.fr _ (nr_ _) r)
   obtain ⟨u1, u2⟩ := K1.kp (S.l.count false) (by omega) (fun e => by have := onA _ e; omega) hfu
   have hct := K1.ct
   have hsz := K1.sz
   have hsz0 : (dsA S b).od.length = S.od.length := rfl
   have hz := h.sz
   have hbT : isM T.l b := K1.up b ((hbA b).2 (.inr rfl))
   refine { ok := f4e K1.ok (by omega) u1 u2 (by omega), up := fun v hv => K1.up v ((hbA v).2 (.inl hv)), cl := fun v hv => ?_, od := fun v => ?_, ct := ?_, sz := ?_, kp := fun q h1 h2 h3 => ?_, mb := hbT, rc := fun r1 r2 => K3 r1 fun v hv => ?_ }
   . rcases K1.cl v hv with h2 | h2
     . rcases (hbA v).1 h2 with h3 | h3
       . exact .inl h3
       . subst h3
         right
         intro w hw
         obtain ⟨j, hj, rfl⟩ := List.mem_iff_getElem.1 hw
         exact K2 j hj hj
     . exact .inr h2
   . show v ∈ T.od ++ [b] ↔ _
     rw [List.mem_append, List.mem_singleton, K1.od v, hbA v]
     show ((v ∈ S.od \/ _) \/ _) ↔ _
     constructor
     . rintro ((h2 | ⟨h2, h3⟩) | h2)
       . exact .inl h2
       . exact .inr ⟨h2, fun h4 => h3 (.inl h4)⟩
       . subst h2; exact .inr ⟨hbT, hb⟩
     . rintro (h2 | ⟨h2, h3⟩)
       . exact .inl (.inl h2)
       . by_cases e : v = b
         . exact .inr e
         . exact .inl (.inr ⟨h2, fun h4 => h4.elim h3 e⟩)
   . show T.l.count false <= _
     omega
   . show (T.od ++ [b]).length + T.l.count false <= _
     rw [List.length_append, List.length_singleton]; omega
   . have hq : (dsA S b).H = upd S.H [1, 14] (.cells 4 1 (a2h (mk1 S.l b))) := rfl
     obtain ⟨g1, g2⟩ := K1.kp q (by omega) h2 fun r => (a7e (by intro e; simp only [List.cons.injEq] at e; omega)).trans (h3 r)
     refine ⟨fun r => ?_, fun e => ?_⟩
     . show upd (upd (d0a T.on (upd T.H _ _)) _ _) _ _ _ = none
       rw [a7e (by intro e; simp only [List.cons.injEq] at e; omega), a7e (by intro e; simp only [List.cons.injEq] at e; omega), c0e (fun q' hq' e => by
        simp only [List.cons.injEq] at e
        have : q = q' := by omega
        subst this; exact g2 hq'), a7e (by intro e; simp only [List.cons.injEq] at e; omega)]
       exact g1 r
     . have : S.l.count false = q := sI_ e
       omega
   . rcases (hbA v).1 hv with h2 | h2
     . exact r2 v h2
     . subst h2; exact r1
theorem e8m {c : List Ins} (hc : CodeOk c) {S T : DS} (h : Did c 0 S T) (hS : ∀ v, ¬ isM S.l v) (ho : S.od = []) : e2d c T.od.reverse := fun o => by
 rw [List.mem_reverse, h.od o, ho]
 constructor
 . rintro (h1 | ⟨h1, _⟩)
   . cases h1
   . exact ⟨h1.1, h.rc .zero (fun v hv => absurd hv (hS v)) o h1⟩
 . rintro ⟨h1, h2⟩
   right
   refine ⟨?_, hS o⟩
   have key : ∀ j, RB c j -> isM T.l (j : Int) := fun j hj => by
    induction hj with
    | zero => exact h.mb
    | @step j v _ hv ih =>
      have := ((h.cl _ ih).resolve_left (hS _)) v (by simpa using hv)
      have e : ((v.toNat : Nat) : Int) = v := by have := c2b hc hv; omega
      rw [e]; exact this
   have := key _ h2
   have e : ((o.toNat : Nat) : Int) = o := by omega
   rwa [e] at this
theorem lkcJ (k : Nat) (v : FV) (r : Asg) (t : Nat) : lk ((k, v) :: r) t = if k = t then v else lk r t := rfl
theorem f7m {tm : Asg} (tm1 : Asg) (h : ∀ p ∈ tm1, lk tm p.1 = p.2) (t : Nat) : lk tm1 t = .undef \/ lk tm1 t = lk tm t := by
 induction tm1 with
 | nil => exact .inl rfl
 | cons p r ih =>
   obtain ⟨k, v⟩ := p
   rw [lkcJ]
   split
   . rename_i e
     subst e
     exact .inr (h (k, v) List.mem_cons_self).symm
   . exact ih fun p hp => h p (List.mem_cons_of_mem _ hp)
theorem e3i {vs1 vs : List FV} {tm1 tm : Asg} {H1 H : Heap} {ix1 ix : List Nat} (hv : vs1.length = vs.length) (hg : ∀ p ∈ vs1.zip vs, p.1 = .undef \/ p.1 = p.2) (ht : ∀ p ∈ tm1, lk tm p.1 = p.2) (hH : HLe H1 H) : Wk (Fs.mk vs1 tm1 H1 ix1) ⟨vs, tm, H, ix⟩ := by
 have h1 : (Fs.mk vs1 tm1 H1 ix).le ⟨vs, tm, H, ix⟩ := by
  refine ⟨hv, fun t => ?_, hH⟩
  unfold Fs.get
  simp only
  rw [<- hv]
  split
  . rename_i ht
    have h2 : t < vs.length := by omega
    rw [gD_, gD_, gE_ ht, gE_ h2]
    have hz : (vs1.zip vs)[t]? = some (vs1[t], vs[t]) := by
     rw [List.getElem?_zip_eq_some]
     exact ⟨gE_ ht, gE_ h2⟩
    simpa using hg _ (List.mem_of_getElem? hz)
  . exact f7m tm1 ht t
 exact (f7u _ ix1).trans h1.wk
theorem d4i {c : List Ins} (hc : CodeOk c) {m : Nat} {S : DS} (h : DSok c S) (hm : S.l.count false <= m) (b : Nat) : ∀ k, k <= (nxN c b).length -> Mid c S (kidK c m S ((nxN c b).take k))
 | 0, _ => Mid.refl h
 | k + 1, hk => by
   have ih := d4i hc h hm b k (by omega)
   have hv := c2b hc (gm_ (show k < (nxN c b).length by omega))
   rw [d4j c m _ (show k < (nxN c b).length by omega)]
   split
   . exact ih
   . rename_i hM
     exact ih.trans (did hc m _ _ ih.ok (by have := ih.ct; omega) hv.1 hv.2 fun h => hM h.2).toMid
theorem e8y {c : List Ins} {B : List (Nat × Nat)} {j : Nat} (h : j < B.length) (h' : j < (bxV c B).length) : (bxV c B)[j] = bRow B[j] (.list 1 (ints (nxB c B[j]))) := by simp [bxV]
theorem e6t (c : List Ins) (hc : CodeOk c) (j : Nat) : (nxN c j).length <= 1000 := by
 unfold nxN
 split
 . rename_i b _
   have h1 : ∀ (s a : List Int), (s.foldl a1x a).length <= a.length + s.length := fun s => by
    induction s with
    | nil => intro a; simp
    | cons x s ih =>
      intro a
      have := ih (a1x a x)
      have := b4i a x
      simp only [List.foldl_cons, List.length_cons]
      omega
   have h2 := h1 ((nx c (hd c (b.2 - 1))).map fun v => (nmF c v.toNat : Int)) []
   have h3 := b5w c (hd c (b.2 - 1))
   unfold nxB
   simp at h2
   omega
 . simp
theorem b3m (c : List Ins) (hc : CodeOk c) : (blks c).length <= 1000 := by
 have := c6w c c.length
 have := hc.n1000
 unfold blks
 unfold nmF at *
 omega
theorem e5d {c : List Ins} (hc : CodeOk c) {m : Nat} (IH : ∀ (S : DS) (b : Int), DSok c S -> S.l.count false <= m -> 0 <= b -> b < ((blks c).length : Int) -> ¬ isM S.l b -> FC Tryz.prog Gl 135 [.int .i64 b, .ptr [1, 4] 1 0 0, .ptr [1, 3] 1 0 0, .ptr [1, 6] 1 0 0, .ptr [1, 5] 1 0 0] S.H (.tup []) (b4e c m S b).H) {S : DS} {b : Int} {u : Nat} (hu : S.l.count false = u) (h : DSok c S) (hm : S.l.count false <= m + 1) (h0 : 0 <= b) (h1 : b < ((blks c).length : Int)) (hb : ¬ isM S.l b) : FC Tryz.prog Gl 135 [.int .i64 b, .ptr [1, 4] 1 0 0, .ptr [1, 3] 1 0 0, .ptr [1, 6] 1 0 0, .ptr [1, 5] 1 0 0] (S.H) (.tup []) ((b4e c (m + 1) S b).H) := by
 obtain ⟨j, rfl⟩ : ∃ j : Nat, b = (j : Int) := ⟨b.toNat, by omega⟩
 obtain ⟨e1, e3, e4, e14, e6, e5, en, eo, ef, ez⟩ := id h
 have hjb : j < (blks c).length := by omega
 have hjl : j < S.l.length := by omega
 have hga := a3z hjl
 have hbm : (a2h S.l).modify j (fun r => FV.bool true :: r.tail) = a2h (mk1 S.l (j : Int)) := a3g S.l j true hjl
 have hA := e3y h h0 h1 hb
 have hcn : (dsA S (j : Int)).l.count false + 1 = S.l.count false := c2f h.len h0 h1 hb
 have hSA : upd S.H [1, 14] (.cells 4 1 (a2h (mk1 S.l (j : Int)))) = (dsA S (j : Int)).H := rfl
 have hAn : (dsA S (j : Int)).on ≠ some u := fun e => by have := (eo u e).2; omega
 have hAf : ∀ r, (dsA S (j : Int)).H (1 :: (100 + u) :: r) = none := fun r => (a7e (by intro e; simp only [List.cons.injEq] at e; omega)).trans (ef u (by omega) r)
 have a3 := hA.h3
 have hxn : nxB c (blks c)[j] = nxN c j := (d3o hjb).symm
 have hnl := e6t c hc j
 have hbl := b3m c hc
 have hz0 : (dsA S (j : Int)).od.length = S.od.length := rfl
 refine b4d (res := []) 8 34 [17, 16, 15] (fun d ix => 1 :: (100 + u) :: d :: ix) (fn := Tryz.f135) (by kernel_rfl) (by rfl) (by rfl) (by rfl) (by simp) (by decide) ?_
 repeat' first
  | ((with_reducible refine a1a ?_); refine a7t (fun y : {k : Nat // k <= (nxN c j).length} => (⟨[.int .i64 (j : Int), .ptr [1, 4] 1 0 0, .ptr [1, 3] 1 0 0, .ptr [1, 6] 1 0 0, .ptr [1, 5] 1 0 0, .undef, .undef, .undef], [(17, .int .i64 (y.1 : Int)), (16, .int .i64 ((nxN c j).length : Int)), (15, .list 1 (ints (nxN c j)))], (kidK c m (dsA S (j : Int)) ((nxN c j).take y.1)).H, []⟩ : Fs)) (fun y => (nxN c j).length - y.1) ⟨0, by simp⟩ (Wk.gk (e3i rfl (by simp [*]) (by simp [lk, *]) (HLe.refl _))) ?_; rintro ⟨k, hk⟩; (try dsimp only at hk); have hM0 := d4i (m := m) hc hA (by omega) j k hk; obtain ⟨Tk, hT⟩ : ∃ T, kidK c m (dsA S (j : Int)) ((nxN c j).take k) = T := ⟨_, rfl⟩; rw [hT] at hM0; obtain ⟨t1, t3, t4, t14, t6, t5, tn, to, tf, tz⟩ := id hM0.ok; have tct := hM0.ct; have tsz := hM0.sz; obtain ⟨tk1, tk2⟩ := hM0.kp u (by omega) hAn hAf; rcases a0z hk with hlk | ⟨hlk, e⟩; rotate_left; subst e; rw [List.take_length] at hT; have hfin : (b4e c (m + 1) S (j : Int)).H = (dsZ u Tk (j : Int)).H := (by rw [d2b, hu, tN_, hT]); have s1 : (Tk.od.length + 1 + (Tk.od.length + 1) / 4 + 192) * 8 <= 140737488355328 := (by omega); have s2 : Tk.od.length <= 4611686018427387903 := (by omega); have f32 := tk1 [32]; have f33 := tk1 [33]; have htq : (ints Tk.od).take Tk.od.length = ints Tk.od := tL_ (by rw [a0n]; exact nr_ _); cases hon : Tk.on; rw [hon] at t5; have hod := tn hon; rotate_left; rename_i q; rw [hon] at t5; obtain ⟨tq, tq2⟩ := to q hon; have hqu : ¬ q = u := (fun e => tk2 (by rw [hon, e])); have hqu2 : ¬ u = q := (fun e => hqu e.symm); rotate_left; have wk := wli hlk (by omega); obtain ⟨hv0, hv1⟩ := c2b hc (gm_ hlk); have hvl : (((nxN c j)[k]'hlk)).toNat < Tk.l.length := (by omega); have hgv : (a2h Tk.l)[(((nxN c j)[k]'hlk)).toNat]? = some [.bool (Tk.l[(((nxN c j)[k]'hlk)).toNat]'hvl)] := a3z hvl; have hks := d4j c m (dsA S (j : Int)) hlk; rw [hT] at hks; by_cases hM : Tk.l[(((nxN c j)[k]'hlk)).toNat]? = some true; rw [if_pos hM] at hks; have hmb : Tk.l[(((nxN c j)[k]'hlk)).toNat]'hvl = true := (by rw [gE_ hvl] at hM; simpa using hM); rw [hmb] at hgv; rotate_left; rw [if_neg hM] at hks; have hmb : Tk.l[(((nxN c j)[k]'hlk)).toNat]'hvl = false := (by rw [gE_ hvl] at hM; simpa using hM); rw [hmb] at hgv; have hcall := IH Tk ((nxN c j)[k]'hlk) hM0.ok (by omega) hv0 hv1 (fun h => hM h.2); rotate_left)
  | ((with_reducible refine a0q ?_); refine a1b (⟨k + 1, by omega⟩) (Wk.gk (e3i rfl (by simp [*]) (by simp [lk, *]) (by dsimp only; rw [hks]; exact HLe.refl _))) (by dsimp only; omega))
  | ((with_reducible refine cgB ?_); refine a4t hcall ?_)
  | with_reducible first | refine stp ?_ | refine stpK ?_; intro K hK | refine stpC ?_; intro T E hT hE | refine stp2 ?_ ?_ <;> intro h | refine a0g rfl ?_ | refine a0j rfl (lbR rfl) a0i ?_ | refine a0j rfl (lbR rfl) (a0h (by simp [HPXB, ext, upd, *])) ?_ | refine a1g (by decide) (by kernel_rfl) ?_ | refine a0o (by decide) ?_ | refine Kont.go hK ?_; clear hK K | refine KT.go hT ?_; clear hT hE T E | refine KT.go hE ?_; clear hT hE T E
  | simp [*, -List.all_flatten, -List.all_eq_true, DEFB, LENB, a0d, a4s, a3u, a0f, a4k, upd, cloS, onV, bRow, a2x, e8y, dsZ, d0a, a2r, a6n, a4c, a2f, b9a, a3n]
theorem d8m {s : List Int} {H : Heap} {l : FM.Loc} (hz : s.length < 4611686018427387904) : FC Tryz.prog Gl 165 [.sl l 1 0 s.length] (upd H l (.cells 3 1 (ints s))) (.sl l 1 0 (s.foldl a1x []).length) (upd H l (.cells 3 1 (ints (s.foldl a1x [] ++ List.replicate (s.length - (s.foldl a1x []).length) 0)))) := by
 refine b4d (res := [.tmp 2]) 3 7 [] (fun d ix => 0 :: d :: ix) (fn := Tryz.f165) (by kernel_rfl) (by rfl) (by rfl) (by rfl) (by simp) (by decide) ?_
 repeat' first
  | with_reducible first | refine stp ?_ | refine stpK ?_; intro K hK | refine stpC ?_; intro T E hT hE | refine stp2 ?_ ?_ <;> intro h | refine a0g rfl ?_ | refine a4t (d1o (s := s) rfl (by simp [upd]) hz) ?_ | refine a4t (b7z (s := srt s) (a7h s) (by simp [upd]) hz) ?_ | refine a0j rfl (lbR rfl) a0i ?_ | refine a0j rfl (lbR rfl) (a0h (by simp [HPXB, ext, upd, *])) ?_ | refine a1g (by decide) (by kernel_rfl) ?_ | refine a0o (by decide) ?_ | refine Kont.go hK ?_; clear hK K | refine KT.go hT ?_; clear hT hE T E | refine KT.go hE ?_; clear hT hE T E
  | simp [*, -List.all_flatten, -List.all_eq_true, DEFB, b5h, b5m, a7h, b9a, a3n]
theorem d1h {s : List Int} {n : Nat} (hn : s.length = n) {H : Heap} {l : FM.Loc} (h : H l = some (.cells 3 1 (ints s))) (hz : n < 4611686018427387904) : FC Tryz.prog Gl 165 [.sl l 1 0 n] H (.sl l 1 0 (s.foldl a1x []).length) (upd H l (.cells 3 1 (ints (s.foldl a1x [] ++ List.replicate (s.length - (s.foldl a1x []).length) 0)))) := by
 subst hn
 have := d8m (H := H) (l := l) hz
 rwa [b0e h] at this
theorem e5f {n : Nat} {l : List Bool} {v : Int} {H : Heap} (h0 : 0 <= v) (h1 : v < (n : Int)) (hw : H [1, 3] = some (.cells 3 1 [[.int .i64 (-1)]])) (hse : H [1, 5] = some (.cells 37 1 [[.sl [62] 1 0 n]])) (hlb : H [62] = some (.cells 4 1 (a2h l))) (hln : l.length = n) (hm : ¬ l[v.toNat]? = some true) (hf1 : H [1, 26] = none) (hf2 : H [1, 27] = none) {st ju : List Int} (hz : st.length <= 1000000) (hst : H [1, 6] = some (.cells 36 1 [[.sl [1, 90] 1 0 st.length]])) (hls : H [1, 90] = some (.cells 3 1 (ints (st ++ ju)))) : FC Tryz.prog Gl 170 [.int .i64 v, .ptr [1, 3] 1 0 0, .ptr [1, 5] 1 0 0, .ptr [1, 6] 1 0 0] (H) (.tup []) (upd (upd (upd (upd (upd H [62] (.cells 4 1 (a2h (mk1 l v)))) [1, 26] (.cells 3 1 [[.int .i64 v]])) [1, 90] .dead) [1, 27] (.cells 3 1 (ints (st ++ [v])))) [1, 6] (.cells 36 1 [[.sl [1, 27] 1 0 (st.length + 1)]])) := by
 have hv : v.toNat < l.length := by omega
 have hga := a3z hv
 have hm1 : ¬ v = -1 := by omega
 have hbm := a3g l v.toNat true hv
 have hmm : l[v.toNat] = false := by
  rw [gE_ hv] at hm
  simpa using hm
 rw [hmm] at hga
 have s1 : (st.length + 1 + (st.length + 1) / 4 + 192) * 8 <= 140737488355328 := szB (by omega)
 have s2 : st.length <= 4611686018427387903 := by omega
 refine b4d (res := []) 5 28 [] (fun d ix => 1 :: d :: ix) (fn := Tryz.f170) (by kernel_rfl) (by rfl) (by rfl) (by rfl) (by simp) (by decide) ?_
 repeat' first
  | with_reducible first | refine stp ?_ | refine stpK ?_; intro K hK | refine stpC ?_; intro T E hT hE | refine stp2 ?_ ?_ <;> intro h | refine a0g rfl ?_ | refine a0j rfl (lbR rfl) a0i ?_ | refine a0j rfl (lbR rfl) (a0h (by simp [HPXB, ext, upd, *])) ?_ | refine a1g (by decide) (by kernel_rfl) ?_ | refine a0o (by decide) ?_ | refine Kont.go hK ?_; clear hK K | refine KT.go hT ?_; clear hT hE T E | refine KT.go hE ?_; clear hT hE T E
  | simp [*, -List.all_flatten, -List.all_eq_true, DEFB, LENB, a0d, a4s, a3u, a0f, a4k, upd, b5h, mk1, c7h, b9a, a3n]
theorem e5g {n : Nat} {l : List Bool} {v : Int} {H : Heap} (h0 : 0 <= v) (h1 : v < (n : Int)) (hw : H [1, 3] = some (.cells 3 1 [[.int .i64 (-1)]])) (hse : H [1, 5] = some (.cells 37 1 [[.sl [62] 1 0 n]])) (hlb : H [62] = some (.cells 4 1 (a2h l))) (hln : l.length = n) (hm : l[v.toNat]? = some true) : FC Tryz.prog Gl 170 [.int .i64 v, .ptr [1, 3] 1 0 0, .ptr [1, 5] 1 0 0, .ptr [1, 6] 1 0 0] (H) (.tup []) (H) := by
 have hv : v.toNat < l.length := by omega
 have hga := a3z hv
 have hm1 : ¬ v = -1 := by omega
 have hbm := a3g l v.toNat true hv
 have hmm : l[v.toNat] = true := by rw [gE_ hv] at hm; simpa using hm
 rw [hmm] at hga
 refine b4d (res := []) 5 28 [] (fun d ix => 1 :: d :: ix) (fn := Tryz.f170) (by kernel_rfl) (by rfl) (by rfl) (by rfl) (by simp) (by decide) ?_
 repeat' first
  | with_reducible first | refine stp ?_ | refine stpK ?_; intro K hK | refine stpC ?_; intro T E hT hE | refine stp2 ?_ ?_ <;> intro h | refine a0g rfl ?_ | refine a0j rfl (lbR rfl) a0i ?_ | refine a0j rfl (lbR rfl) (a0h (by simp [HPXB, ext, upd, *])) ?_ | refine a1g (by decide) (by kernel_rfl) ?_ | refine a0o (by decide) ?_ | refine Kont.go hK ?_; clear hK K | refine KT.go hT ?_; clear hT hE T E | refine KT.go hE ?_; clear hT hE T E
  | simp [*, -List.all_flatten, -List.all_eq_true, DEFB, LENB, a0d, a4s, a3u, a0f, a4k, upd, b5h, b9a, a3n]
theorem e5h {n : Nat} {l : List Bool} {v : Int} {H : Heap} (h0 : 0 <= v) (h1 : v < (n : Int)) (hw : H [1, 3] = some (.cells 3 1 [[.int .i64 (-1)]])) (hse : H [1, 5] = some (.cells 37 1 [[.sl [1, 14] 1 0 n]])) (hlb : H [1, 14] = some (.cells 4 1 (a2h l))) (hln : l.length = n) (hm : ¬ l[v.toNat]? = some true) (hf1 : H [1, 26] = none) (hf2 : H [1, 27] = none) (hst : H [1, 6] = some (.cells 36 1 [[.nils]])) : FC Tryz.prog Gl 170 [.int .i64 v, .ptr [1, 3] 1 0 0, .ptr [1, 5] 1 0 0, .ptr [1, 6] 1 0 0] (H) (.tup []) (upd (upd (upd (upd H [1, 14] (.cells 4 1 (a2h (mk1 l v)))) [1, 26] (.cells 3 1 [[.int .i64 v]])) [1, 27] (.cells 3 1 [[.int .i64 v]])) [1, 6] (.cells 36 1 [[.sl [1, 27] 1 0 1]])) := by
 have hv : v.toNat < l.length := by omega
 have hga := a3z hv
 have hm1 : ¬ v = -1 := by omega
 have hbm := a3g l v.toNat true hv
 have hmm : l[v.toNat] = false := by
  rw [gE_ hv] at hm
  simpa using hm
 rw [hmm] at hga
 refine b4d (res := []) 5 28 [] (fun d ix => 1 :: d :: ix) (fn := Tryz.f170) (by kernel_rfl) (by rfl) (by rfl) (by rfl) (by simp) (by decide) ?_
 repeat' first
  | with_reducible first | refine stp ?_ | refine stpK ?_; intro K hK | refine stpC ?_; intro T E hT hE | refine stp2 ?_ ?_ <;> intro h | refine a0g rfl ?_ | refine a0j rfl (lbR rfl) a0i ?_ | refine a0j rfl (lbR rfl) (a0h (by simp [HPXB, ext, upd, *])) ?_ | refine a1g (by decide) (by kernel_rfl) ?_ | refine a0o (by decide) ?_ | refine Kont.go hK ?_; clear hK K | refine KT.go hT ?_; clear hT hE T E | refine KT.go hE ?_; clear hT hE T E
  | simp [*, -List.all_flatten, -List.all_eq_true, DEFB, LENB, a0d, a4s, a3u, a0f, a4k, upd, b5h, mk1, b9a, a3n]
theorem b5z : ∀ (l : List Int), l = [] \/ ∃ m o, l = m ++ [o]
 | [] => .inl rfl
 | a :: r => by
   rcases b5z r with rfl | ⟨m, o, rfl⟩
   . exact .inr ⟨[], a, rfl⟩
   . exact .inr ⟨a :: m, o, rfl⟩
theorem f5u {c : List Ins} (hc : CodeOk c) : wtV (mk1 (List.replicate c.length false) 0, [0]) <= 3000 := by
 have h1 := hc.n1000
 have h2 := List.count_le_length (a := false) (l := mk1 (List.replicate c.length false) 0)
 rw [b3b, List.length_replicate] at h2
 unfold wtV
 simp only [List.length_singleton]
 omega
theorem e5a {nm : ByteArray} {pa rg : Int} {c : List Ins} (hc : CodeOk c) {B : Heap} (hB : BsV B) : FC Tryz.prog Gl 129 [.agg [.str nm, .int .i64 pa, .int .i64 rg, .list 5 (inss c)], .int .i64 (-1)] (HP [] B noH) (.sl [62] 1 0 c.length) (HP [([62], .cells 4 1 (a2h (rcL c)))] B noH) := by
 have fB : ∀ r, B (1 :: r) = none := fun r => hB.fr 1 r (by decide)
 have f62 := hB.f62
 have h1000 := hc.n1000
 have hne := hc.ne
 have hne1 : (0 : Int) < (c.length : Int) := by omega
 have hs1 : (c.length : Int) <= 4611686018427387904 := by omega
 have hs2 : (c.length : Int) <= 281474976710656 := by omega
 refine a5n (res := [.tmp 4]) 11 49 [40, 39, 38] (fun d ix => 1 :: d :: ix) (fn := Tryz.f129) (by kernel_rfl) (by rfl) (by rfl) (by rfl) (by simp) (by decide) ?_
 repeat' first
  | ((with_reducible refine f7n hB ?_ ?_); (focus (simp [fB, f62]; done)); (focus (simp [HPXB, fB, f62]; done)))
  | ((with_reducible refine a1a ?_); refine a1q (σ := {y : (List Bool × List Int) × List Int // Vst c y.1.1 y.1.2 /\ wtV y.1 <= 3000}) (fun y => [(8, .undef), (10, .undef)]) [] (fun y => []) [[1, 14], [1, 26], [1, 27]] (fun y => [([1, 5], .cells 37 1 [[.sl [62] 1 0 c.length]]), ([62], .cells 4 1 (a2h y.1.1.1)), ([1, 6], .cells 36 1 [[.sl [1, 90] 1 0 y.1.1.2.length]]), ([1, 90], .cells 3 1 (ints (y.1.1.2 ++ y.1.2)))]) (fun y => noH) (fun y => wtV y.1.1) ⟨((mk1 (List.replicate c.length false) 0, [0]), []), Vst.init hc, f5u hc⟩ (gk5S [([62], some [1, 14]), ([1, 90], some [1, 27])] rfl hB.c5 hB.l5 ?_ ?_ ?_ ?_ ?_ ?_) ?_; (iterate 2 (focus (simp [LPXB, *, SIMB, a1l, a0w, fB, f62, a0d, a0f, a1s, a2r, a4y, a2f, mk1]; done))); (focus (simp [injB, bk, LPXB]; done)); (iterate 3 (focus (simp [LPXB, *, SIMB, bk_n, bk_c, inH, a1l, a0w, fB, f62, a0d, a0f, a1s, a2r, a4y, a2f, mk1]; done))); rintro ⟨⟨⟨l, st⟩, ju⟩, hV, hw⟩; simp only [lpS, LPXB]; (try dsimp only at hV hw); have hln := hV.len; rcases b5z st with e | ⟨m, o, e⟩; subst e; have hfin := hV.fin hc; have hrl := a9u c; have htk : (rcL c).take c.length = rcL c := tL_ (by rw [a9u]; exact nr_ _); rotate_left; subst e; have ho := hV.stk o (by simp); have ho1 := c2m ho; obtain ⟨i, hio⟩ : ∃ i : Nat, o = (i : Int) := ⟨o.toNat, by have := ho.1; omega⟩; subst hio; have hil : i < c.length := (by omega); obtain ⟨hV2, hw2⟩ := hV.pop hc; simp only [tN_] at hV2 hw2; have hml : m.length <= 3000 := (by unfold wtV at hw; simp at hw; omega); have g1 : (ints (m ++ (i : Int) :: ju))[m.length]? = some [.int .i64 (i : Int)] := (by simp [ints, a2f]); have wm3 : (m.length : Int) < (m.length : Int) + 1 := (by omega); have wm : IntKind.wrap .i64 (m.length : Int) = (m.length : Int) := (by rw [IntKind.wrap_i64]; omega); have wm2 : (0 : Int) < (m.length : Int) + 1 := (by omega); rotate_left)
  | ((with_reducible refine a1a ?_); refine a1q (σ := {y : Nat × ((List Bool × List Int) × List Int) // y.1 <= (nx c i).length /\ pshs l m ((nx c i).take y.1) = y.2.1}) (fun y => [(10, .undef)]) [39, 38] (fun y => [(40, .int .i64 (y.1.1 : Int))]) [] (fun y => [([1, 5], .cells 37 1 [[.sl [62] 1 0 c.length]]), ([62], .cells 4 1 (a2h y.1.2.1.1)), ([1, 6], .cells 36 1 [[.sl [1, 90] 1 0 y.1.2.1.2.length]]), ([1, 90], .cells 3 1 (ints (y.1.2.1.2 ++ y.1.2.2)))]) (fun y => noH) (fun y => (nx c i).length - y.1.1) ⟨(0, ((l, m), (i : Int) :: ju)), by simp, rfl⟩ (gk5S [] rfl hB.c5 hB.l5 ?_ ?_ ?_ ?_ ?_ ?_) ?_; (iterate 2 (focus (simp [LPXB, *, SIMB, a1l, a0w, fB, f62, a0d, a0f, a1s]; done))); (focus (simp [injB, bk, LPXB]; done)); (iterate 3 (focus (simp [LPXB, *, SIMB, bk_n, bk_c, inH, a1l, a0w, fB, f62, a0d, a0f, a1s]; done))); rintro ⟨⟨k, ⟨l2, st2⟩, ju2⟩, hk, he⟩; simp only [lpS, LPXB]; (try dsimp only at hk he); have hps := f1x l m ((nx c i).take k) (fun o ho => by obtain ⟨a1, a2, _⟩ := a7y hc (List.mem_of_mem_take ho); omega); rw [he] at hps; have hl2 : l2.length = c.length := (by have := hps.len; simp only at this; omega); have hst2 : st2.length <= 1000000 := (by have h1 := hps.wt; have h2 := hw; unfold wtV at h1 h2; simp at h1 h2; omega); have hnl : (nx c i).length <= 1000 := (b5w c i); rcases a0z hk with hlt | ⟨hlt, e⟩; rotate_left; subst e; rw [List.take_length] at he; rw [he] at hV2 hw2; rotate_left; have wi := wli hlt (by omega); obtain ⟨hv0, hv1', _⟩ := a7y hc (gm_ hlt); have hv1 : (nx c i)[k] < (c.length : Int) := (by omega); have hpt := d3g l m hlt; rw [he] at hpt; by_cases hmY : l2[((nx c i)[k]).toNat]? = some true; have hp2 : psh (l2, st2) (nx c i)[k] = (l2, st2) := (by unfold psh; rw [if_pos hmY]); rw [hp2] at hpt; rotate_left; have hmN := hmY; have hp2 : psh (l2, st2) (nx c i)[k] = (mk1 l2 (nx c i)[k], st2 ++ [(nx c i)[k]]) := (by unfold psh; rw [if_neg hmY]); rw [hp2] at hpt; rotate_left)
  | ((with_reducible refine cgB ?_); refine a4t (e5h (n := c.length) (l := List.replicate c.length false) (v := 0) (by omega) (by omega) ?_ ?_ ?_ (by simp) ?_ ?_ ?_ ?_) ?_; (iterate 2 (focus (simp [HPXB]; done))); (focus (simp [HPXB, a1s]; done)); (focus (intro h; have := List.mem_of_getElem? h; simp at this; done)); (iterate 3 (focus (simp [HPXB, fB, f62]; done))))
  | ((with_reducible refine cgB ?_); refine a4t (e5g (l := l2) hv0 hv1 ?_ ?_ ?_ hl2 hmY) ?_; (iterate 3 (focus (simp [HPXB, fB, f62]; done))))
  | ((with_reducible refine cgB ?_); refine a4t (e5f (l := l2) (st := st2) (ju := ju2) hv0 hv1 ?_ ?_ ?_ hl2 hmN ?_ ?_ hst2 ?_ ?_) ?_; (iterate 7 (focus (simp [HPXB, fB, f62]; done))))
  | ((with_reducible refine a0q ?_); refine a1b (⟨(k + 1, ((l2, st2), ju2)), by omega, hpt⟩) (gk5S [] rfl hB.c5 hB.l5 ?_ ?_ ?_ ?_ ?_ ?_) ?_; (iterate 2 (focus (simp [LPXB, *, SIMB, a1l, a0w, fB, f62, a0d, a0f, a1s]; done))); (focus (simp [injB, bk, LPXB]; done)); (iterate 3 (focus (simp [LPXB, *, SIMB, bk_n, bk_c, inH, a1l, a0w, fB, f62, a0d, a0f, a1s]; done))); (focus (dsimp only; omega)))
  | ((with_reducible refine a0q ?_); refine a1b (⟨(k + 1, ((mk1 l2 (nx c i)[k], st2 ++ [(nx c i)[k]]), [])), by omega, hpt⟩) (gk5S [([1, 90], some [1, 27])] rfl hB.c5 hB.l5 ?_ ?_ ?_ ?_ ?_ ?_) ?_; (iterate 2 (focus (simp [LPXB, *, SIMB, a1l, a0w, fB, f62, a0d, a0f, a1s, a2f]; done))); (focus (simp [injB, bk, LPXB]; done)); (iterate 3 (focus (simp [LPXB, *, SIMB, bk_n, bk_c, inH, a1l, a0w, fB, f62, a0d, a0f, a1s, a2f]; done))); (focus (dsimp only; omega)))
  | ((with_reducible refine a0q ?_); refine a1b (⟨((l2, st2), ju2), hV2, by dsimp only at hw2 hw ⊢; omega⟩) (gk5S [] rfl hB.c5 hB.l5 ?_ ?_ ?_ ?_ ?_ ?_) ?_; (iterate 2 (focus (simp [LPXB, *, SIMB, a1l, a0w, fB, f62, a0d, a0f, a1s]; done))); (focus (simp [injB, bk, LPXB]; done)); (iterate 3 (focus (simp [LPXB, *, SIMB, bk_n, bk_c, inH, a1l, a0w, fB, f62, a0d, a0f, a1s]; done))); (focus (dsimp only; omega)))
  | with_reducible first | refine stp ?_ | refine stpK ?_; intro K hK | refine stpC ?_; intro T E hT hE | refine stp2 ?_ ?_ <;> intro h | refine a0g rfl ?_ | refine a1e (b7x hc hil) (by simp [nls, nl, *, NLXB]) ?_ | refine hpc (b7x hc hil) (by simp [nls, nl, *, NLXB]) ?_ | refine a0j rfl (lbR rfl) a0i ?_ | refine a0j rfl (lbR rfl) (a0h (by simp [HPXB, fB, f62, ext, upd, *])) ?_ | refine a1g (by decide) (by kernel_rfl) ?_ | refine a0o (by decide) ?_ | refine Kont.go hK ?_; clear hK K | refine KT.go hT ?_; clear hT hE T E | refine KT.go hE ?_; clear hT hE T E
  | simp [*, -List.all_flatten, -List.all_eq_true, DEFB, LENB, asR, a1w, a0d, a4s, a3u, a0f, a1s, a4k, c7h, a6m, b6m]
end Go.Je
