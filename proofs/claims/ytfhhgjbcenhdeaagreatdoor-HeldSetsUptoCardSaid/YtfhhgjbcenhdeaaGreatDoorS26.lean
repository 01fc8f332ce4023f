/- Part. -/
import Derived.Test.YtfhhgjbcenhdeaaGreatDoorS24
set_option linter.all false
set_option maxRecDepth 100000
set_option maxHeartbeats 0
namespace Go.Je
open Go Go.FM Go.Gv Go.Proofs
variable {B : Heap} {X : Ins} {Y : Pts} {f pc : Nat} {fk : FuncId} {g m : Bool} {p : Pg}
theorem f6z (hp : VOk p) (hCT : CT p m fk) (hfk : fnOk Tp fk = true) (hf : f < p.fu.length) (hI : InsOk p p.fu[f] X) (hy : Shp p Y) (hB : BsM p 3 B) (q : X.op = 27 \/ X.op = 29 \/ X.op = 32) : FCr Tp Gl 141 [.ptr [81] 8 0 0, .agg [.int .i64 (f : Int), .int .i64 (pc : Int)], .agg X.row, .clo fk [] [.ptr [88] 1 0 0]] (HP [] B (MF p Y g)) (OutT p m B (a1x p f pc X) Y g) := by
 rcases q with q | q | q
 all_goals
  have hsv := a0h hp
  have fB : ∀ r, B (3 :: r) = none := fun r => (hB Y g Y g hy hy).fb 3 r yb
  have yl3 := hy.rn
  have yl4 := hy.cn
  have hrr := hp.regs (A5p hf)
  obtain ⟨yl1, yl2⟩ := hy.at hf
  obtain ⟨nr, hnr⟩ : ∃ nr : Nat, p.fu[f].regs = (nr : Int) := ⟨p.fu[f].regs.toNat, by have := hrr.p0; have := hrr.p1; omega⟩
  rw [hnr, A5r] at yl2
  have hnr64 : nr <= 64 := by have := hrr.r64; omega
  have hIa := hI.a
  have hIb := hI.b
  have hIc := hI.c
  have hi1 : ∀ (L : LF) (Z : Pts) (h : Bool), inH (HP L B (MF p Z h)) [88] := fun L Z h => a5m
  have hi2 : ∀ (L : LF) (Z : Pts) (h : Bool), inH (HP L B (MF p Z h)) [81] := fun L Z h => a1g a4j
  have hi3 : ∀ (L : LF) (Z : Pts) (h : Bool), Shp p Z -> inH (HP L B (MF p Z h)) [83, f] := fun L Z h hZ => a1g (a6t (hZ.at hf).1)
  have ha : isR p.fu[f] X.a := a2g (r := (rR X.op).1) hIa y7
  obtain ⟨a0, a1⟩ := id ha
  have aN : (X.a).toNat < nr := by omega
  have a2 : X.a < (nr : Int) := by omega
  have haS := hy.rok hf ha
  have hrg : b1w Tp (HP (bxs p f pc nr X fk) B (MF p Y g)) [3, 183] 141 (.mp [85, f, X.a.toNat]) = some ([([3, 183], .iter (.mp [85, f, X.a.toNat]) (getS Y (.r f X.a.toNat)).length [] (getS Y (.r f X.a.toNat)).length)], .ptr [3, 183] 0 0 0) := b6n (a4t (p := p) (b := g) haS) (by simp [bxs, a7j, a8r, yw, fB])
  simp only [bxs, Ins.row, q] at hrg
  have hi5 : ∀ (L : LF) (Z : Pts) (h : Bool), Shp p Z -> inH (HP L B (MF p Z h)) [85, f, X.a.toNat] := fun L Z h hZ => d0d (hZ.rok hf ha)
  refine zd Tryz.f141 [] 16 210 [27, 63, 62, 183, 192, 191, 190] 3 ?_
  repeat' first
   | (refine dx1 ?_; intro K hK)
   | with_reducible first | refine a0f (id := 6) [] 7 a0d yc fun K hK => ?_ | refine a0f (id := 12) [] 8 a0d yc fun K hK => ?_ | refine a0f (id := 17) [] 16 a0d yc fun K hK => ?_ | refine a0f (id := 22) [] 11 a0d yc fun K hK => ?_ | refine a0f (id := 55) [] 12 a0d yc fun K hK => ?_ | refine a2m ?_ | refine a9y (id := 50) fun K hK => ?_
   | (refine yi ?_; refine a0e (σ := {x : (List Nat × Nat) × (Pts × Bool) // LI p m (SL.r f X.a.toNat) (ccC p) Y g x.1.1 x.1.2 x.2.1 x.2.2}) (fun y => [(13, .undef), (15, .undef)]) [183] (fun y => []) [[3, 95]] (fun y => [([3, 183], .iter (.mp [85, f, X.a.toNat]) (getS Y (SL.r f X.a.toNat)).length y.1.1.1 y.1.1.2)]) (fun y => MF p y.1.2.1 y.1.2.2) (fun y => (a0a p).length - y.1.1.1.length) ⟨(([], (getS Y (SL.r f X.a.toNat)).length), (Y, g)), LI.start hy⟩ (gk3i (j := 3) [] (hB _ _ _ _ hy hy) yk yk yk yk yk yk yk) ?_; rintro ⟨⟨⟨sn, lst⟩, ⟨Z, u⟩⟩, HL⟩; simp only [lpS, LPXB]; (try dsimp only at HL); have hZ := HL.sh; have hZt := hZ.rok hf ha; obtain ⟨z1, z2⟩ := hZ.at hf; rw [hnr, A5r] at z2; have z3 := hZ.rn; have z4 := hZ.cn)
   | ((with_reducible refine wlH ?_); refine c5b (l := [3, 183]) (k := [85, f, X.a.toNat]) (since := (getS Y (SL.r f X.a.toNat)).length) (last := lst) (clk := (getS Z (SL.r f X.a.toNat)).length) (seen := sn) (es := ents (getS Z (SL.r f X.a.toNat))) y84 rfl rfl (A5l rfl) y29 y85 y86 y87 ?_ ?_; rotate_left; (rintro e' he' hn; obtain ⟨i, hi, rfl⟩ := b0j.1 he'; (try dsimp only at hn); have hlen := HL.len hi hn; have hen := b7t (H := HP (bxs p f pc nr X fk ++ [([3, 183], .iter (.mp [85, f, X.a.toNat]) (getS Y (SL.r f X.a.toNat)).length (sn ++ [i]) (getS Z (SL.r f X.a.toNat)).length)]) B (MF p Z u)) (l := [3, 183]) (k := [85, f, X.a.toNat]) (since := (getS Y (SL.r f X.a.toNat)).length) (sn := sn) hi (by simp [bxs, HPXB, fB, yu]) (a4t hZt); simp only [bxs, Ins.row, q, List.cons_append, A2u] at hen; obtain ⟨o0, o1⟩ := (hZ.gets (SL.r f X.a.toNat)).2 _ (A5p hi); generalize ho : (getS Z (SL.r f X.a.toNat))[i] = o at hen o0 o1; have hfu := fun (L : LF) hl hn => c6h (L := L) (g := u) hp hZ hB hl hn o1; have hfb := fun q (hq : q ∈ a2q p Z o) => c1o hp hq; have hfl := d0m (p := p) Z o; generalize hfs : a2q p Z o = fs at hfu hfb hfl; refine b3z ?_); rotate_right; intro hz; refine b3z ?_)
   | ((with_reducible refine cgH ?_); refine a3d rfl (hfu _ yn y99) ?_)
   | (refine yi ?_; refine a0e (σ := {x : Nat × (Pts × Bool) // x.1 <= fs.length /\ Shp p x.2.1 /\ TR m (fcC o fs x.1) (fcC o fs x.1) Z u x.2.1 x.2.2}) (fun y => [(15, .undef)]) [191, 190, 183] (fun y => [(192, .int .i64 (y.1.1 : Int))]) [[3, 95]] (fun y => []) (fun y => MF p y.1.2.1 y.1.2.2) (fun y => fs.length - y.1.1) ⟨(0, (Z, u)), A2a _, hZ, TR.id (g8u _ _ _)⟩ (gk3i (j := 3) [] (hB _ _ _ _ hy hZ) yk yk yk yk yk yk yk) ?_; rintro ⟨⟨k, ⟨V, v⟩⟩, hk2, hV, hT3⟩; simp only [lpS, LPXB]; (try dsimp only at hk2 hV hT3); have v3 := hV.rn; have v4 := hV.cn; rcases cl2 hk2 z1t with ⟨hlk, wk⟩ | ⟨hlk, rfl⟩; obtain ⟨g0, g1, g2⟩ := hfb _ (A5p hlk); obtain ⟨gi, gr⟩ := reg0 hp g0 g1 g2; obtain ⟨v1, v2⟩ := hV.at gi; obtain ⟨nrg, hnrg⟩ : ∃ nrg : Nat, (p.fu[(fs[k]'hlk).toNat]'gi).regs = (nrg : Int) := ⟨(p.fu[(fs[k]'hlk).toNat]'gi).regs.toNat, by have := gr.2; omega⟩; rw [hnrg, A5r] at v2; have v5 : 0 < nrg := (by have := gr.2; omega); have hto0 := hV.rok gi gr; have hto : (SL.r (fs[k]'hlk).toNat 0).ok V := (by simpa using hto0))
   | (with_reducible refine hfc1 [3, 95] (mapO [o]) (fun H2 _ h0 => e3l o h0) ?_)
   | (refine zj ?_; refine a1c hfk (fun d hd => ?_) rfl (b4u (.r (fs[k]'hlk).toNat 0) [3, 95] hCT hB yb hV hto (ok1 o0 o1) z2e rfl ?_) ?_; (focus (cases hd; exact A5l rfl)); (focus (first | rfl | (simp [ninL, ninO, a1h, nins, nin, zk, mapO, a1f, ze, hdN, *]; done))); (rintro r' H' ⟨rfl, V2, v2_, rfl, hV2, hT4⟩))
   | (refine ye ?_; refine a0b (⟨(k + 1, (V2, v2_)), by omega, hV2, hT3.step1 hT4 (g8t hlk)⟩) (gk3i (j := 3) [] (hB _ _ _ _ hy hV2) yk yk yk yk yk yk yk) yf)
   | (refine ye ?_; obtain HL2 : LI p m (SL.r f X.a.toNat) (ccC p) Y g (sn ++ [i]) (getS Z (SL.r f X.a.toNat)).length V v := HL.step hi hn hV hT3 (fun z hs hc => by rw [ho] at hc; rw [<- hfs]; exact fc_s hp hs hc) (fun hc => by rw [ho]; rw [<- hfs] at hc; exact fc_n hc); (refine ye ?_; refine a0b (⟨((sn ++ [i], (getS Z (SL.r f X.a.toNat)).length), (V, v)), HL2⟩) (gk3i (j := 3) [] (hB _ _ _ _ hy hV) yk yk yk yk yk yk yk) y88))
   | (refine zf ?_; refine a4y (j := 3) (hB _ _ _ _ hy hZ) rfl ⟨rfl, Z, u, rfl, hZ, (HL.fin (d8t HL hz)).congr (fun z => by simp [a1x, q, alO, gsr, ccC])⟩ trivial)
   | with_reducible first | refine a2w ?_ | refine a4r ?_ | refine wh ?_; intro K hK | refine yo ?_ | refine stpC ?_; intro T E hT hE | refine stp2 ?_ ?_ <;> intro h | refine yg ?_; clear hK K | refine yh ?_; clear hT hE T E
   | simp [*, -List.all_flatten, -List.all_eq_true, DEFM, fB, yu, hdN, zt, anR, y3, rmvs, za, FnD.row, Ins.row, zz, a0o, b6y, a0j]
theorem c7a (hp : VOk p) (hCT : CT p m fk) (hfk : fnOk Tp fk = true) {L : LF} (hf : f < p.fu.length) (hy : Shp p Y) (hB : BsM p 3 B) {nr nb : Nat} (hnr : p.fu[f].regs = (nr : Int)) (hI : InsOk p p.fu[f] X) (hbr : opR p p.fu[f] X 102 X.b = true) (hxb : X.b = (nb : Int)) (hnb : nb < p.fu.length) (ha : X.op = 26 -> X.a < (nr : Int)) {v : Int} (hop : X.op = v) (hl : hdN 3 (L.map Prod.fst) = true) (hn : ninL (inH (HP L B (MF p Y g))) L) :
 FCr Tp Gl 175 [.ptr [81] 8 0 0, .agg [.int .i64 v, .int .i64 X.a, .int .i64 (nb : Int), .int .i64 X.c, .int .i64 X.d], .sl [83, f] 1 0 nr, .clo fk [] [.ptr [88] 1 0 0]] (HP [] (updL L B) (MF p Y g)) (OutT p m (updL L B) (b8d f X nb p.fu[nb].params.toNat p.fu[nb].code) Y g) := by
 have h := g4b hp hCT hfk hf hy hB hl hn hnr hI hbr hxb hnb ha
 subst hop
 rw [<- hxb]; exact h
theorem b8c {nb : Nat} (hxb : X.b = (nb : Int)) (hnb : nb < p.fu.length) (q : X.op = 26 \/ X.op = 28 \/ X.op = 31) (z : Pts) : a1x p f pc X z ↔ b8d f X nb p.fu[nb].params.toNat p.fu[nb].code z := by
 have hfa : fnAt p X.b = p.fu[nb] := by unfold fnAt; rw [hxb, A5r, A5m, A5n hnb, A5z]
 have hN : X.b.toNat = nb := by rw [hxb, A5r]
 have key : a1x p f pc X z ↔ (∀ i : Nat, i < (fnAt p X.b).params.toNat -> subR (rg z X.b.toNat i) (rg z f (X.c + i))) /\ (X.op = 26 /\ 0 <= X.a -> ∀ m ∈ (fnAt p X.b).code, m.op = 30 /\ 0 <= m.a -> subR (rg z f X.a) (rg z X.b.toNat m.a)) := by
  rcases q with q | q | q <;> simp [a1x, q, alO]
 rw [key, hfa, hN]
 unfold b8d prC rtC
 refine and_congr Iff.rfl ⟨fun h h0 j hj _ hc => h h0 _ (A5p hj) hc, fun h h0 m hm hc => ?_⟩
 obtain ⟨j, hj, rfl⟩ := A0g hm
 exact h h0 j hj hj hc
theorem c_26 (hp : VOk p) (hCT : CT p m fk) (hfk : fnOk Tp fk = true) (hf : f < p.fu.length) (hI : InsOk p p.fu[f] X) (hy : Shp p Y) (hB : BsM p 3 B) (q : X.op = 26) : FCr Tp Gl 141 [.ptr [81] 8 0 0, .agg [.int .i64 (f : Int), .int .i64 (pc : Int)], .agg X.row, .clo fk [] [.ptr [88] 1 0 0]] (HP [] B (MF p Y g)) (OutT p m B (a1x p f pc X) Y g) := by
 have hsv := a0h hp
 have fB : ∀ r, B (3 :: r) = none := fun r => (hB Y g Y g hy hy).fb 3 r yb
 have yl3 := hy.rn
 have yl4 := hy.cn
 have hrr := hp.regs (A5p hf)
 obtain ⟨yl1, yl2⟩ := hy.at hf
 obtain ⟨nr, hnr⟩ : ∃ nr : Nat, p.fu[f].regs = (nr : Int) := ⟨p.fu[f].regs.toNat, by have := hrr.p0; have := hrr.p1; omega⟩
 rw [hnr, A5r] at yl2
 have hnr64 : nr <= 64 := by have := hrr.r64; omega
 have hIa := hI.a
 have hIb := hI.b
 have hIc := hI.c
 have hi1 : ∀ (L : LF) (Z : Pts) (h : Bool), inH (HP L B (MF p Z h)) [88] := fun L Z h => a5m
 have hi2 : ∀ (L : LF) (Z : Pts) (h : Bool), inH (HP L B (MF p Z h)) [81] := fun L Z h => a1g a4j
 have hi3 : ∀ (L : LF) (Z : Pts) (h : Bool), Shp p Z -> inH (HP L B (MF p Z h)) [83, f] := fun L Z h hZ => a1g (a6t (hZ.at hf).1)
 have hbr : opR p p.fu[f] X 102 X.b = true := by have := hI.b; rw [q] at this; exact this
 obtain ⟨k1, k2, k3, k4⟩ := a5e hp (A5p hf) hbr
 obtain ⟨nb, hxb⟩ : ∃ nb : Nat, X.b = (nb : Int) := ⟨X.b.toNat, by omega⟩
 have hnb : nb < p.fu.length := by omega
 have ha26 : X.op = 26 -> X.a < (nr : Int) := fun e => by have := hI.a; rw [e] at this; have := (a7d this (.inl rfl)).2; omega
 refine zd Tryz.f141 [] 16 210 [27, 63, 62, 183, 192, 191, 190] 3 ?_
 repeat' first
  | (refine dx1 ?_; intro K hK)
  | with_reducible first | refine a0f (id := 6) [] 7 a0d yc fun K hK => ?_ | refine a0f (id := 12) [] 8 a0d yc fun K hK => ?_ | refine a0f (id := 17) [] 16 a0d yc fun K hK => ?_ | refine a0f (id := 22) [] 11 a0d yc fun K hK => ?_ | refine a0f (id := 55) [] 12 a0d yc fun K hK => ?_ | refine a2m ?_
  | (refine zj ?_; refine a1c yc (fun d hd => ?_) rfl (c7a hp hCT hfk hf hy hB hnr hI hbr hxb hnb ha26 q ?_ ?_) ?_; (focus (cases hd; exact A5l rfl)); (focus rfl); (focus (first | rfl | (simp [ninL, ninO, a1h, nins, nin, zk, mapO, z15, hdN, *]; done))); (rintro r' H' ⟨rfl, Z2, h2, rfl, hZ2, hT2⟩))
  | (refine zf ?_; refine a4y (j := 3) (hB _ _ _ _ hy hZ2) rfl ⟨rfl, Z2, h2, rfl, hZ2, hT2.congr (b8c hxb hnb (.inl q))⟩ trivial)
  | with_reducible first | refine a2w ?_ | refine a4r ?_ | refine wh ?_; intro K hK | refine yo ?_ | refine stpC ?_; intro T E hT hE | refine stp2 ?_ ?_ <;> intro h | refine yg ?_; clear hK K | refine yh ?_; clear hT hE T E
  | simp [*, -List.all_flatten, -List.all_eq_true, DEFM, fB, yu, hdN, zt, anR, y3, rmvs, za, FnD.row, Ins.row, zz]
theorem g4c (hp : VOk p) (hCT : CT p m fk) (hfk : fnOk Tp fk = true) (hf : f < p.fu.length) (hI : InsOk p p.fu[f] X) (hy : Shp p Y) (hB : BsM p 3 B) (q : X.op = 33 \/ X.op = 35) : FCr Tp Gl 141 [.ptr [81] 8 0 0, .agg [.int .i64 (f : Int), .int .i64 (pc : Int)], .agg X.row, .clo fk [] [.ptr [88] 1 0 0]] (HP [] B (MF p Y g)) (OutT p m B (a1x p f pc X) Y g) := by
 rcases q with q | q
 all_goals
  have hsv := a0h hp
  have fB : ∀ r, B (3 :: r) = none := fun r => (hB Y g Y g hy hy).fb 3 r yb
  have yl3 := hy.rn
  have yl4 := hy.cn
  have hrr := hp.regs (A5p hf)
  obtain ⟨yl1, yl2⟩ := hy.at hf
  obtain ⟨nr, hnr⟩ : ∃ nr : Nat, p.fu[f].regs = (nr : Int) := ⟨p.fu[f].regs.toNat, by have := hrr.p0; have := hrr.p1; omega⟩
  rw [hnr, A5r] at yl2
  have hnr64 : nr <= 64 := by have := hrr.r64; omega
  have hIa := hI.a
  have hIb := hI.b
  have hIc := hI.c
  have hi1 : ∀ (L : LF) (Z : Pts) (h : Bool), inH (HP L B (MF p Z h)) [88] := fun L Z h => a5m
  have hi2 : ∀ (L : LF) (Z : Pts) (h : Bool), inH (HP L B (MF p Z h)) [81] := fun L Z h => a1g a4j
  have hi3 : ∀ (L : LF) (Z : Pts) (h : Bool), Shp p Z -> inH (HP L B (MF p Z h)) [83, f] := fun L Z h hZ => a1g (a6t (hZ.at hf).1)
  have ha : isR p.fu[f] X.a := a2g (r := (rR X.op).1) hIa y7
  obtain ⟨a0, a1⟩ := id ha
  have aN : (X.a).toNat < nr := by omega
  have a2 : X.a < (nr : Int) := by omega
  have haS := hy.rok hf ha
  have hb : isR p.fu[f] X.b := a2g (r := (rR X.op).2.1) hIb y7
  obtain ⟨b0, b1⟩ := id hb
  have bN : (X.b).toNat < nr := by omega
  have b2 : X.b < (nr : Int) := by omega
  have hbS := hy.rok hf hb
  refine zd Tryz.f141 [] 16 210 [27, 63, 62, 183, 192, 191, 190] 3 ?_
  repeat' first
   | (refine dx1 ?_; intro K hK)
   | with_reducible first | refine a0f (id := 6) [] 7 a0d yc fun K hK => ?_ | refine a0f (id := 12) [] 8 a0d yc fun K hK => ?_ | refine a0f (id := 17) [] 16 a0d yc fun K hK => ?_ | refine a0f (id := 22) [] 11 a0d yc fun K hK => ?_ | refine a0f (id := 55) [] 12 a0d yc fun K hK => ?_ | refine a2m ?_
   | (refine zj ?_; refine a1c yc (fun d hd => ?_) rfl (cl1M hCT hfk (a := X.b) (e := X.a) (hf := hf) hy hB ?_ ?_ hnr ⟨?_, ?_, ?_⟩ hb ha) ?_; (focus (cases hd; exact A5l rfl)); (focus rfl); (focus (first | rfl | (simp [ninL, ninO, a1h, nins, nin, zk, mapO, z15, hdN, *]; done))); (iterate 3 (focus (simp [yw]; done))); (rintro r' H' ⟨rfl, Z2, h2, rfl, hZ2, hT2⟩))
   | (refine zf ?_; refine a4y (j := 3) (hB _ _ _ _ hy hZ2) rfl ⟨rfl, Z2, h2, rfl, hZ2, hT2.congr (fun z => by simp [a1x, q, alO, gsr, rdC, wrC])⟩ trivial)
   | with_reducible first | refine a2w ?_ | refine a4r ?_ | refine wh ?_; intro K hK | refine yo ?_ | refine stpC ?_; intro T E hT hE | refine stp2 ?_ ?_ <;> intro h | refine yg ?_; clear hK K | refine yh ?_; clear hT hE T E
   | simp [*, -List.all_flatten, -List.all_eq_true, DEFM, fB, yu, hdN, zt, anR, y3, rmvs, za, FnD.row, Ins.row, zz]
theorem e8z {c : List Ins} (hc : CodeOk c) : ∀ (m : Nat) (S : DS) (b : Int), DSok c S -> S.l.count false <= m -> 0 <= b -> b < ((blks c).length : Int) -> ¬ isM S.l b -> FC Tp Gl 135 [.int .i64 b, .ptr [1, 4] 1 0 0, .ptr [1, 3] 1 0 0, .ptr [1, 6] 1 0 0, .ptr [1, 5] 1 0 0] S.H (.tup []) (b4q c m S b).H
 | 0, S, b, h, hm, h0, h1, hb => by
   have := c3s h.len h0 h1 hb
   omega
 | m + 1, S, b, h, hm, h0, h1, hb => f2d hc (e8z hc m) rfl h hm h0 h1 hb
def ordH (nm : ByteArray) (pa rg : Int) (c : List Ins) : Heap := HP [([1, 1], .cells 35 4 [[.str nm, .int .i64 pa, .int .i64 rg, .list 5 (inss c)]]), ([1, 3], .cells 84 1 [[.list 3 (bxV c (blks c))]]), ([1, 14], .cells 4 1 (a0k (List.replicate (blks c).length false))), ([1, 4], .cells 37 1 [[.sl [1, 14] 1 0 (blks c).length]]), ([1, 5], .cells 36 1 [[.nils]]), ([1, 6], .cells 174 1 [[cloS]])] noH noH
def ordS (nm : ByteArray) (pa rg : Int) (c : List Ins) : DS := ⟨List.replicate (blks c).length false, [], none, ordH nm pa rg c⟩
theorem d7g (nm : ByteArray) (pa rg : Int) (c : List Ins) : DSok c (ordS nm pa rg c) := by
 refine ⟨by simp [ordS], ?_, ?_, ?_, ?_, ?_, fun _ => rfl, fun k hk => (by cases hk), fun k _ r => ?_, by simp [ordS]⟩
 all_goals simp [ordS, ordH, onV, a7j, b4p, a8m, a2c, b8k, a4l, a3g, b0c, a7n, a0q]
 all_goals (repeat rw [if_neg fun h => by have := h.1; omega])
theorem b5u {c : List Ins} (hc : CodeOk c) : 0 < (blks c).length := by
 have := f3w hc .zero
 omega
theorem f2r {nm : ByteArray} {pa rg : Int} {c : List Ins} (hc : CodeOk c) : ∃ ord, e8f c ord /\ ord.length <= 1000 /\ Pq 82 [.agg [.str nm, .int .i64 pa, .int .i64 rg, .list 5 (inss c)]] (.list 1 (ints ord)) := by
 have hpos := b5u hc
 have hbl := b3w c hc
 have hnm0 : ¬ isM (ordS nm pa rg c).l 0 := fun h => b1g _ _ h
 have hD := did hc (blks c).length (ordS nm pa rg c) 0 (d7g nm pa rg c) (by simp [ordS]) ya ya hnm0
 have hord := f6p hc hD (fun v h => b1g _ v h) rfl
 have h0in : (0 : Int) ∈ (b4q c (blks c).length (ordS nm pa rg c) 0).od := (hD.od 0).2 (.inr ⟨hD.mb, hnm0⟩)
 have hOK := hD.ok
 have hsz := hOK.sz
 refine ⟨(b4q c (blks c).length (ordS nm pa rg c) 0).od.reverse, hord, by simp; omega, ?_⟩
 clear hord hD
 obtain ⟨T, hT⟩ := ex_ (b4q c (blks c).length (ordS nm pa rg c) 0)
 rw [hT] at h0in hOK hsz ⊢
 have hodn : T.od ≠ [] := fun e => by rw [e] at h0in; cases h0in
 obtain ⟨t1, t3, t4, t14, t6, t5, tn, to, tf, tz⟩ := id hOK
 obtain ⟨k, hk⟩ : ∃ k, T.on = some k := by
  cases h : T.on with
  | none => exact absurd (tn h) hodn
  | some k => exact ⟨k, rfl⟩
 rw [hk] at t5
 have tq := (to k hk).1
 have hnb0 : ¬ (blks c).length = 0 := by omega
 have hs1 : ((blks c).length : Int) <= 4611686018427387904 := by omega
 have hs2 : ((blks c).length : Int) <= 281474976710656 := by omega
 have htq : (ints T.od.reverse).take T.od.length = ints T.od.reverse := A6a (by rw [a0o, List.length_reverse]; exact A5s _)
 refine yq Tryz.f82 [.tmp 2] 7 21 [] 1 ?_
 repeat' first
  | (refine wg ?_; refine a3h (e8z hc (blks c).length (ordS nm pa rg c) 0 (d7g nm pa rg c) (by simp [ordS]) ya ya hnm0) ?_)
  | (refine wg ?_; refine a3h (d4v (l := [1, 100 + k, 33]) (s := T.od) (T := 3) rfl (by simp [*] <;> fail) hodn ya) ?_)
  | refine yo ?_
  | (refine stpK ?_; intro K hK)
  | (refine stpC ?_; intro T E hT hE)
  | (refine stp2 ?_ ?_ <;> intro h)
  | refine cpG (c8d hc) ?_
  | (refine yg ?_; clear hK K)
  | (refine yh ?_; clear hT hE T E)
  | simp [*, -List.all_flatten, -List.all_eq_true, yl, asR, a0q, onV, a1k, a0g, upd, a5i, List.length_reverse]
theorem g6k {i : Nat} (hf : f < p.fu.length) (hi : i < p.fu[f].code.length) (h1 : p.fu.length <= 2000000) (h2 : p.fu[f].code.length <= 2000000) : Pq 163 [PA p, .int .i64 f, .int .i64 i] (.tup [.agg [.int .i64 p.fu[f].code[i].op, .int .i64 p.fu[f].code[i].a, .int .i64 p.fu[f].code[i].b, .int .i64 p.fu[f].code[i].c, .int .i64 p.fu[f].code[i].d], .bool true]) := by
 have w1 : IntKind.wrap .i64 ((p.fu.length : Int) - 1) = (p.fu.length : Int) - 1 := by rw [IntKind.wrap_i64]; omega
 have w2 : IntKind.wrap .i64 ((p.fu[f].code.length : Int) - 1) = (p.fu[f].code.length : Int) - 1 := by rw [IntKind.wrap_i64]; omega
 have l1 : (f : Int) <= (p.fu.length : Int) - 1 := by omega
 have l2 : (i : Int) <= (p.fu[f].code.length : Int) - 1 := by omega
 refine yq Tryz.f163 [.cell 6 42, .tmp 7] 8 38 [] 0 ?_
 repeat' first
  | refine yo ?_
  | (refine stpK ?_; intro K hK)
  | (refine stpC ?_; intro T E hT hE)
  | (refine stp2 ?_ ?_ <;> intro h)
  | refine cpG (c31 _ _ _) ?_
  | (refine yg ?_; clear hK K)
  | (refine yh ?_; clear hT hE T E)
  | simp [*, -List.all_flatten, -List.all_eq_true, yl]
theorem t_at {i : Nat} (hf : f < p.fu.length) (hi : i < p.fu[f].code.length) (h1 : p.fu.length <= 2000000) (h2 : p.fu[f].code.length <= 2000000) {x : Ins} (hx : p.fu[f].code[i] = x) : Pq 163 [PA p, .int .i64 f, .int .i64 i] (.tup [.agg [.int .i64 x.op, .int .i64 x.a, .int .i64 x.b, .int .i64 x.c, .int .i64 x.d], .bool true]) := by
 subst hx
 exact g6k hf hi h1 h2
end Go.Je
