/- Part. -/
import Derived.Test.YtfhhgjbcenhdeaaGreatDoorS17
import Derived.Test.YtfhhgjbcenhdeaaGreatDoorS13
import Derived.Shelf.Slices.Reverse
set_option linter.all false
set_option maxRecDepth 100000
set_option maxHeartbeats 0
namespace Go.Je
open Go Go.FM Go.Gv Go.Proofs
variable {B : Heap} {X : Ins} {Y Z : Pts} {e o : Int} {f nb np nr nr2 : Nat} {fk : FuncId} {g m : Bool} {p : Pg}
theorem d8t {t : SL} {C : Pts -> Int -> Prop} {h : Bool} {sn : List Nat} {lst : Nat} (H : LI p m t C Y g sn lst Z h) (hz : ∀ e ∈ ents (getS Z t), e.2.2 < (getS Y t).length -> e.2.2 ∈ sn) : ∀ i, i < (getS Y t).length -> i ∈ sn := fun i hi => by
 have h1 : i < (getS Z t).length := A2b hi (H.tr.pre.pf t).length_le
 exact hz _ (b0j.2 ⟨i, h1, rfl⟩) hi
theorem f8i {t : SL} {C : Pts -> Int -> Prop} {h : Bool} {sn : List Nat} {lst : Nat} (H : LI p m t C Y g sn lst Z h) : sn = [] \/ ∃ e ∈ ents (getS Z t), e.2.2 < lst := by
 cases sn with
 | nil => exact .inl rfl
 | cons i r => exact .inr ⟨_, b0j.2 ⟨i, H.lt' i yd, rfl⟩, H.lt i yd⟩
structure BxC (B : Heap) (f nr : Nat) (fk : FuncId) : Prop where
 r : B [3, 8] = some (.cells 136 1 [[.sl [83, f] 1 0 nr]])
 k : B [3, 7] = some (.cells 143 1 [[.clo fk [] [.ptr [88] 1 0 0]]])
 a : B [3, 4] = some (.cells 131 1 [[.ptr [81] 8 0 0]])
section
variable {P : Program} {c : Cfg} {s : Fs} {ops : Array Oper} {o : Oper} {post : List Oper} {Φ : Fs -> Prop}
theorem a2w (h : Φ s) : WL P c ops [] Φ s := fun X a w Q hR hQ => hQ s a w h hR
theorem a1c {f : FuncId} {A : List FV} {Ψ : FV -> Heap -> Prop} {L : LF} {Af : Heap} (hf : fnOk P f = true) (hN : ∀ d, o.dst = some d -> d < c.N) (hs : s.H = HP L B Af) (hfc : FCr P c.G f A (HP [] (updL L B) Af) Ψ) (h : ∀ r H', Ψ r H' -> StL P c ops post Φ (putD c o r { s with H := H' })) : MDo P c ops o post Φ s (some (f, A)) :=
 d7t hf hN (by rw [hs]; exact hfc) h
end
theorem b4u {j : Nat} {L : LF} {y : Pts} {b : Bool} (t : SL) (lf : FM.Loc) {ks : List Int} (hCT : CT p m fk) (hB : BsM p j B) (h1 : 1 < j) (hy : Shp p y) (ht : t.ok y) (hk : okA (a0a p).length ks) (hl : HP L B (MF p y b) lf = some (mapO ks)) (hL : hdN j (L.map Prod.fst) = true) (hn : ninL (inH (HP L B (MF p y b))) L) :
 FCr Tp Gl fk [.mp t.loc, .mp lf, .ptr [88] 1 0 0] (HP [] (updL L B) (MF p y b)) (OutT p m (updL L B) (inS t ks) y b) := hCT _ y b t lf ks hy ht (hB.call 1 h1 hy hL hn) hk hl
theorem rd_s {z : Pts} (hs : sub Z z) (hc : rdC f e z o) : inS (.r f e.toNat) (getS Z (.c o.toNat)) z := fun q hq => by
 rw [a7u]
 exact hc q (by rw [<- b7g]; exact hs.2 _ q hq)
theorem rd_n (hc : inS (.r f e.toNat) (getS Z (.c o.toNat)) Z) : rdC f e Z o := fun q hq => by
 have := hc q (by rw [b7g]; exact hq)
 rwa [a7u] at this
theorem wr_s {z : Pts} (hs : sub Z z) (hc : wrC f e z o) : inS (.c o.toNat) (getS Z (.r f e.toNat)) z := fun q hq => by
 rw [b7g]
 exact hc q (by rw [<- a7u]; exact hs.2 _ q hq)
theorem wr_n (hc : inS (.c o.toNat) (getS Z (.r f e.toNat)) Z) : wrC f e Z o := fun q hq => by
 have := hc q (by rw [a7u]; exact hq)
 rwa [b7g] at this
theorem g6j (hCT : CT p m fk) (hfk : fnOk Tp fk = true) {hf : f < p.fu.length} (hy : Shp p Y) (hB : BsM p 2 B) (hnr : p.fu[f].regs = (nr : Int)) (hX : BxC B f nr fk) {a : Int} (ha : isR p.fu[f] a) (he : isR p.fu[f] e) : FCr Tp Gl 172 [.int .i64 e, .int .i64 a, .ptr [3, 8] 1 0 0, .ptr [3, 7] 1 0 0, .ptr [3, 4] 1 0 0] (HP [] B (MF p Y g)) (OutT p m B (fun z => ∀ o ∈ getS z (SL.r f a.toNat), rdC f e z o) Y g) := by
 have fB : ∀ r, B (2 :: r) = none := fun r => (hB Y g Y g hy hy).fb 2 r yb
 obtain ⟨fB8, fB7, fB4⟩ := hX
 obtain ⟨yl1, yl2⟩ := hy.at hf
 rw [hnr, A5r] at yl2
 have yl3 := hy.rn
 have yl4 := hy.cn
 obtain ⟨a0, a1⟩ := id ha
 obtain ⟨e0, e1⟩ := id he
 have aN : a.toNat < nr := by omega
 have eN : e.toNat < nr := by omega
 have a2 : a < (nr : Int) := by omega
 have e2 : e < (nr : Int) := by omega
 have hYt := hy.rok hf ha
 have hrg : b1w Tp (HP [] B (MF p Y g)) [2, 12] 141 (.mp [85, f, a.toNat]) = some ([([2, 12], .iter (.mp [85, f, a.toNat]) (getS Y (.r f a.toNat)).length [] (getS Y (.r f a.toNat)).length)], .ptr [2, 12] 0 0 0) := b6n (a4t (L := []) (B := B) (p := p) (b := g) hYt) (by simp [a7j, a8r, a4l, fB])
 have hi1 : ∀ (L : LF) (Z : Pts) (h : Bool), Shp p Z -> inH (HP L B (MF p Z h)) [85, f, a.toNat] := fun L Z h hZ => d0d (hZ.rok hf ha)
 have hi2 : ∀ (L : LF) (A : Heap), inH (HP L B A) [3, 8] := fun L A => in_B (by rw [fB8]; simp)
 have hi3 : ∀ (L : LF) (A : Heap), inH (HP L B A) [3, 7] := fun L A => in_B (by rw [fB7]; simp)
 have hi4 : ∀ (L : LF) (A : Heap), inH (HP L B A) [3, 4] := fun L A => in_B (by rw [fB4]; simp)
 refine zd Tryz.f172 [] 8 30 [12] 2 ?_
 repeat' first
  | with_reducible first | refine a9y (id := 1) fun K hK => ?_ | refine a0f (id := 3) [] 12 a0d yc fun K hK => ?_
  | (refine yi ?_; refine a0e (σ := {x : (List Nat × Nat) × (Pts × Bool) // LI p m (SL.r f a.toNat) (rdC f e) Y g x.1.1 x.1.2 x.2.1 x.2.2}) (fun y => [(7, .undef)]) [12] (fun y => []) [] (fun y => [([2, 12], .iter (.mp [85, f, a.toNat]) (getS Y (SL.r f a.toNat)).length y.1.1.1 y.1.1.2)]) (fun y => MF p y.1.2.1 y.1.2.2) (fun y => (a0a p).length - y.1.1.1.length) ⟨(([], (getS Y (SL.r f a.toNat)).length), (Y, g)), LI.start hy⟩ z2o ?_; rintro ⟨⟨⟨sn, lst⟩, ⟨Z, h⟩⟩, HL⟩; simp only [lpS, LPXB]; (try dsimp only at HL); have hZ := HL.sh; have hZt := hZ.rok hf ha; have hZe := hZ.rok hf he; obtain ⟨z1, z2⟩ := hZ.at hf; rw [hnr, A5r] at z2; have z3 := hZ.rn; have z4 := hZ.cn)
  | ((with_reducible refine wlH ?_); refine c5b (l := [2, 12]) (k := [85, f, a.toNat]) (since := (getS Y (SL.r f a.toNat)).length) (last := lst) (clk := (getS Z (SL.r f a.toNat)).length) (seen := sn) (es := ents (getS Z (SL.r f a.toNat))) y84 rfl rfl (A5l rfl) y29 y85 y86 y87 ?_ ?_; rotate_left; (rintro e' he' hn; obtain ⟨i, hi, rfl⟩ := b0j.1 he'; (try dsimp only at hn); have hlen := HL.len hi hn; have hen := b7t (H := HP [([2, 12], FO.iter (.mp [85, f, a.toNat]) (getS Y (SL.r f a.toNat)).length (sn ++ [i]) (getS Z (SL.r f a.toNat)).length)] B (MF p Z h)) (l := [2, 12]) (k := [85, f, a.toNat]) (since := (getS Y (SL.r f a.toNat)).length) (sn := sn) hi z2e (a4t hZt); obtain ⟨o0, o1⟩ := (hZ.gets (SL.r f a.toNat)).2 _ (A5p hi); have hgo : (getS Z (SL.r f a.toNat))[i] = (getS Z (SL.r f a.toNat))[i] := rfl; generalize ho : (getS Z (SL.r f a.toNat))[i] = o at hen o0 o1; have hoc := hZ.cok o0 o1; have hol : o.toNat < Z.cells.length := (by rw [z4]; omega); refine b3z ?_); rotate_right; intro hz; refine b3z ?_)
  | (with_reducible refine a2m ?_)
  | (refine zj ?_; refine a1c hfk (fun d hd => ?_) rfl (b4u (SL.r f e.toNat) (SL.c o.toNat).loc hCT hB yb hZ hZe (hZ.gets (SL.c o.toNat)) (a4t hoc) rfl ?_) ?_; (focus (cases hd; exact A5l rfl)); (focus (first | rfl | (simp [ninL, ninO, a1h, nins, nin, zk, mapO, a1f, ze, hdN, *]; done))); (rintro r' H' ⟨rfl, Z2, h2, rfl, hZ2, hT⟩))
  | ((obtain HL2 : LI p m (SL.r f a.toNat) (rdC f e) Y g (sn ++ [i]) (getS Z (SL.r f a.toNat)).length Z2 h2 := HL.step hi hn hZ2 hT (fun z hs hc => by rw [ho] at hc; exact rd_s hs hc) (fun hc => by rw [ho]; exact rd_n hc)); have hB2 := hZ2; (refine ye ?_; refine a0b (⟨((sn ++ [i], (getS Z (SL.r f a.toNat)).length), (Z2, h2)), HL2⟩) z2p y88))
  | (refine zf ?_; refine a4y (j := 2) (hB _ _ _ _ hy hZ) rfl ⟨rfl, Z, h, rfl, hZ, HL.fin (d8t HL hz)⟩ trivial)
  | with_reducible first | refine a2w ?_ | refine a4r ?_ | refine a0n (id := 3) 13 a0d yc fun K hK => ?_ | refine yo ?_ | refine stpK ?_; intro K hK | refine stpC ?_; intro T E hT hE | refine stp2 ?_ ?_ <;> intro h | refine yg ?_; clear hK K | refine yh ?_; clear hT hE T E
  | simp [*, -List.all_flatten, -List.all_eq_true, DEFM, fB, yu, hdN, wy, anR, y3, fB4, fB7, fB8, rmvs]
theorem g6i (hCT : CT p m fk) (hfk : fnOk Tp fk = true) {hf : f < p.fu.length} (hy : Shp p Y) (hB : BsM p 2 B) (hnr : p.fu[f].regs = (nr : Int)) (hX : BxC B f nr fk) {a : Int} (ha : isR p.fu[f] a) (he : isR p.fu[f] e) : FCr Tp Gl 173 [.int .i64 a, .int .i64 e, .ptr [3, 8] 1 0 0, .ptr [3, 7] 1 0 0, .ptr [3, 4] 1 0 0] (HP [] B (MF p Y g)) (OutT p m B (fun z => ∀ o ∈ getS z (SL.r f a.toNat), wrC f e z o) Y g) := by
 have fB : ∀ r, B (2 :: r) = none := fun r => (hB Y g Y g hy hy).fb 2 r yb
 obtain ⟨fB8, fB7, fB4⟩ := hX
 obtain ⟨yl1, yl2⟩ := hy.at hf
 rw [hnr, A5r] at yl2
 have yl3 := hy.rn
 have yl4 := hy.cn
 obtain ⟨a0, a1⟩ := id ha
 obtain ⟨e0, e1⟩ := id he
 have aN : a.toNat < nr := by omega
 have eN : e.toNat < nr := by omega
 have a2 : a < (nr : Int) := by omega
 have e2 : e < (nr : Int) := by omega
 have hYt := hy.rok hf ha
 have hrg : b1w Tp (HP [] B (MF p Y g)) [2, 12] 141 (.mp [85, f, a.toNat]) = some ([([2, 12], .iter (.mp [85, f, a.toNat]) (getS Y (.r f a.toNat)).length [] (getS Y (.r f a.toNat)).length)], .ptr [2, 12] 0 0 0) := b6n (a4t (L := []) (B := B) (p := p) (b := g) hYt) (by simp [a7j, a8r, a4l, fB])
 have hi1 : ∀ (L : LF) (Z : Pts) (h : Bool), Shp p Z -> inH (HP L B (MF p Z h)) [85, f, a.toNat] := fun L Z h hZ => d0d (hZ.rok hf ha)
 have hi2 : ∀ (L : LF) (A : Heap), inH (HP L B A) [3, 8] := fun L A => in_B (by rw [fB8]; simp)
 have hi3 : ∀ (L : LF) (A : Heap), inH (HP L B A) [3, 7] := fun L A => in_B (by rw [fB7]; simp)
 have hi4 : ∀ (L : LF) (A : Heap), inH (HP L B A) [3, 4] := fun L A => in_B (by rw [fB4]; simp)
 refine zd Tryz.f173 [] 8 30 [12] 2 ?_
 repeat' first
  | with_reducible first | refine a9y (id := 1) fun K hK => ?_ | refine a0f (id := 3) [] 12 a0d yc fun K hK => ?_
  | (refine yi ?_; refine a0e (σ := {x : (List Nat × Nat) × (Pts × Bool) // LI p m (SL.r f a.toNat) (wrC f e) Y g x.1.1 x.1.2 x.2.1 x.2.2}) (fun y => [(7, .undef)]) [12] (fun y => []) [] (fun y => [([2, 12], .iter (.mp [85, f, a.toNat]) (getS Y (SL.r f a.toNat)).length y.1.1.1 y.1.1.2)]) (fun y => MF p y.1.2.1 y.1.2.2) (fun y => (a0a p).length - y.1.1.1.length) ⟨(([], (getS Y (SL.r f a.toNat)).length), (Y, g)), LI.start hy⟩ z2o ?_; rintro ⟨⟨⟨sn, lst⟩, ⟨Z, h⟩⟩, HL⟩; simp only [lpS, LPXB]; (try dsimp only at HL); have hZ := HL.sh; have hZt := hZ.rok hf ha; have hZe := hZ.rok hf he; obtain ⟨z1, z2⟩ := hZ.at hf; rw [hnr, A5r] at z2; have z3 := hZ.rn; have z4 := hZ.cn)
  | ((with_reducible refine wlH ?_); refine c5b (l := [2, 12]) (k := [85, f, a.toNat]) (since := (getS Y (SL.r f a.toNat)).length) (last := lst) (clk := (getS Z (SL.r f a.toNat)).length) (seen := sn) (es := ents (getS Z (SL.r f a.toNat))) y84 rfl rfl (A5l rfl) y29 y85 y86 y87 ?_ ?_; rotate_left; (rintro e' he' hn; obtain ⟨i, hi, rfl⟩ := b0j.1 he'; (try dsimp only at hn); have hlen := HL.len hi hn; have hen := b7t (H := HP [([2, 12], FO.iter (.mp [85, f, a.toNat]) (getS Y (SL.r f a.toNat)).length (sn ++ [i]) (getS Z (SL.r f a.toNat)).length)] B (MF p Z h)) (l := [2, 12]) (k := [85, f, a.toNat]) (since := (getS Y (SL.r f a.toNat)).length) (sn := sn) hi z2e (a4t hZt); obtain ⟨o0, o1⟩ := (hZ.gets (SL.r f a.toNat)).2 _ (A5p hi); have hgo : (getS Z (SL.r f a.toNat))[i] = (getS Z (SL.r f a.toNat))[i] := rfl; generalize ho : (getS Z (SL.r f a.toNat))[i] = o at hen o0 o1; have hoc := hZ.cok o0 o1; have hol : o.toNat < Z.cells.length := (by rw [z4]; omega); refine b3z ?_); rotate_right; intro hz; refine b3z ?_)
  | (with_reducible refine a2m ?_)
  | (refine zj ?_; refine a1c hfk (fun d hd => ?_) rfl (b4u (SL.c o.toNat) (SL.r f e.toNat).loc hCT hB yb hZ hoc (hZ.gets (SL.r f e.toNat)) (a4t hZe) rfl ?_) ?_; (focus (cases hd; exact A5l rfl)); (focus (first | rfl | (simp [ninL, ninO, a1h, nins, nin, zk, mapO, a1f, ze, hdN, *]; done))); (rintro r' H' ⟨rfl, Z2, h2, rfl, hZ2, hT⟩))
  | ((obtain HL2 : LI p m (SL.r f a.toNat) (wrC f e) Y g (sn ++ [i]) (getS Z (SL.r f a.toNat)).length Z2 h2 := HL.step hi hn hZ2 hT (fun z hs hc => by rw [ho] at hc; exact wr_s hs hc) (fun hc => by rw [ho]; exact wr_n hc)); have hB2 := hZ2; (refine ye ?_; refine a0b (⟨((sn ++ [i], (getS Z (SL.r f a.toNat)).length), (Z2, h2)), HL2⟩) z2p y88))
  | (refine zf ?_; refine a4y (j := 2) (hB _ _ _ _ hy hZ) rfl ⟨rfl, Z, h, rfl, hZ, HL.fin (d8t HL hz)⟩ trivial)
  | with_reducible first | refine a2w ?_ | refine a4r ?_ | refine a0n (id := 3) 13 a0d yc fun K hK => ?_ | refine yo ?_ | refine stpK ?_; intro K hK | refine stpC ?_; intro T E hT hE | refine stp2 ?_ ?_ <;> intro h | refine yg ?_; clear hK K | refine yh ?_; clear hT hE T E
  | simp [*, -List.all_flatten, -List.all_eq_true, DEFM, fB, yu, hdN, wy, anR, y3, fB4, fB7, fB8, rmvs]
theorem e3o (hCT : CT p m fk) (hfk : fnOk Tp fk = true) (hf : f < p.fu.length) (hy : Shp p Y) (hB : BsM p 2 B) (hnr : p.fu[f].regs = (nr : Int)) (hxb : X.b = (nb : Int)) (hnb : nb < p.fu.length) (hnr2 : p.fu[nb].regs = (nr2 : Int)) (hnp : p.fu[nb].params = (np : Int)) (h1 : np <= nr2) (h2 : nr2 <= 64) (h3 : nr <= 64) (hc0 : 0 <= X.c) (hc1 : X.c + np <= nr) (q1 : ¬ X.op = 26) : FCr Tp Gl 175 [.ptr [81] 8 0 0, .agg X.row, .sl [83, f] 1 0 nr, .clo fk [] [.ptr [88] 1 0 0]] (HP [] B (MF p Y g)) (OutT p m B (b8d f X nb np (p.fu[nb]'hnb).code) Y g) := by
 have fB : ∀ r, B (2 :: r) = none := fun r => (hB Y g Y g hy hy).fb 2 r yb
 have yl3 := hy.rn
 have hi1 : ∀ (L : LF) (Z : Pts) (h : Bool), inH (HP L B (MF p Z h)) [88] := fun L Z h => a5m
 have hi2 : ∀ (L : LF) (Z : Pts) (h : Bool), inH (HP L B (MF p Z h)) [81] := fun L Z h => a1g a4j
 have hi3 : ∀ (L : LF) (Z : Pts) (h : Bool), Shp p Z -> inH (HP L B (MF p Z h)) [83, f] := fun L Z h hZ => a1g (a6t (hZ.at hf).1)
 refine zd Tryz.f175 [] 12 90 [23, 22, 58, 57, 56] 2 ?_
 repeat' first
  | with_reducible first | refine a0f (id := 5) [] 19 a0d yc fun K hK => ?_ | refine a0f (id := 12) [] 18 a0d yc fun K hK => ?_ | refine a2m ?_
  | (refine yi ?_; refine a0e (σ := {x : Nat × (Pts × Bool) // x.1 <= np /\ Shp p x.2.1 /\ TR m (prC f X nb x.1) (prC f X nb x.1) Y g x.2.1 x.2.2}) (fun y => [(9, .undef)]) [22] (fun y => [(23, .int .i64 (y.1.1 : Int))]) [] (fun y => []) (fun y => MF p y.1.2.1 y.1.2.2) (fun y => np - y.1.1) ⟨(0, (Y, g)), A2a _, hy, TR.id (f4b _ _ _ _)⟩ z2o ?_; rintro ⟨⟨k, ⟨Z, u⟩⟩, hk, hZ, hT1⟩; simp only [lpS, LPXB]; (try dsimp only at hk hZ hT1); obtain ⟨z1, z2⟩ := hZ.at hf; rw [hnr, A5r] at z2; obtain ⟨z5, z6⟩ := hZ.at hnb; rw [hnr2, A5r] at z6; have z3 := hZ.rn; rcases cl2 hk ya with ⟨hlt, wk⟩ | ⟨hlt, rfl⟩; have wc : IntKind.wrap .i64 (X.c + (k : Int)) = X.c + (k : Int) := zh; have c2 : X.c + (k : Int) < (nr : Int) := ya; have c3 : (0 : Int) <= X.c + (k : Int) := ya; have c4 : (X.c + (k : Int)).toNat < nr := ya; have k2 : k < nr2 := ya; have hto := hZ.rok hnb (a := (k : Int)) ⟨by omega, by omega⟩; have hfr := hZ.rok hf (a := X.c + (k : Int)) ⟨c3, by omega⟩)
  | (refine zj ?_; refine a1c hfk (fun d hd => ?_) rfl (b4u (.r nb k) (SL.r f (X.c + (k : Int)).toNat).loc hCT hB yb hZ (by simpa using hto) (hZ.gets (.r f (X.c + (k : Int)).toNat)) (a4t hfr) rfl ?_) ?_; (focus (cases hd; exact A5l rfl)); (focus (first | rfl | (simp [ninL, ninO, a1h, nins, nin, zk, mapO, a1f, ze, hdN, *]; done))); (rintro r' H' ⟨rfl, Z2, h2, rfl, hZ2, hT2⟩))
  | (refine ye ?_; refine a0b (⟨(k + 1, (Z2, h2)), by omega, hZ2, hT1.stepk hT2 f4a⟩) z2p yf)
  | (refine zf ?_; refine a4y (j := 2) (hB _ _ _ _ hy hZ) rfl ⟨rfl, Z, u, rfl, hZ, hT1.callN (fun h => q1 h.1)⟩ trivial)
  | with_reducible first | refine a2w ?_ | refine a4r ?_ | refine a0n (id := 1) 10 a0d yc fun K hK => ?_ | refine yo ?_ | refine stpK ?_; intro K hK | refine stpC ?_; intro T E hT hE | refine stp2 ?_ ?_ <;> intro h | refine yg ?_; clear hK K | refine yh ?_; clear hT hE T E
  | simp [*, -List.all_flatten, -List.all_eq_true, DEFM, fB, yu, hdN, ze, wy, anR, y3, rmvs, za, FnD.row, Ins.row]
theorem e3n (hCT : CT p m fk) (hfk : fnOk Tp fk = true) (hf : f < p.fu.length) (hy : Shp p Y) (hB : BsM p 2 B) (hnr : p.fu[f].regs = (nr : Int)) (hxb : X.b = (nb : Int)) (hnb : nb < p.fu.length) (hnr2 : p.fu[nb].regs = (nr2 : Int)) (hnp : p.fu[nb].params = (np : Int)) (h1 : np <= nr2) (h2 : nr2 <= 64) (h3 : nr <= 64) (hc0 : 0 <= X.c) (hc1 : X.c + np <= nr) (q1 : X.op = 26) (q2 : X.a < 0) : FCr Tp Gl 175 [.ptr [81] 8 0 0, .agg X.row, .sl [83, f] 1 0 nr, .clo fk [] [.ptr [88] 1 0 0]] (HP [] B (MF p Y g)) (OutT p m B (b8d f X nb np (p.fu[nb]'hnb).code) Y g) := by
 have fB : ∀ r, B (2 :: r) = none := fun r => (hB Y g Y g hy hy).fb 2 r yb
 have yl3 := hy.rn
 have hi1 : ∀ (L : LF) (Z : Pts) (h : Bool), inH (HP L B (MF p Z h)) [88] := fun L Z h => a5m
 have hi2 : ∀ (L : LF) (Z : Pts) (h : Bool), inH (HP L B (MF p Z h)) [81] := fun L Z h => a1g a4j
 have hi3 : ∀ (L : LF) (Z : Pts) (h : Bool), Shp p Z -> inH (HP L B (MF p Z h)) [83, f] := fun L Z h hZ => a1g (a6t (hZ.at hf).1)
 refine zd Tryz.f175 [] 12 90 [23, 22, 58, 57, 56] 2 ?_
 repeat' first
  | with_reducible first | refine a0f (id := 5) [] 19 a0d yc fun K hK => ?_ | refine a0f (id := 12) [] 18 a0d yc fun K hK => ?_ | refine a2m ?_
  | (refine yi ?_; refine a0e (σ := {x : Nat × (Pts × Bool) // x.1 <= np /\ Shp p x.2.1 /\ TR m (prC f X nb x.1) (prC f X nb x.1) Y g x.2.1 x.2.2}) (fun y => [(9, .undef)]) [22] (fun y => [(23, .int .i64 (y.1.1 : Int))]) [] (fun y => []) (fun y => MF p y.1.2.1 y.1.2.2) (fun y => np - y.1.1) ⟨(0, (Y, g)), A2a _, hy, TR.id (f4b _ _ _ _)⟩ z2o ?_; rintro ⟨⟨k, ⟨Z, u⟩⟩, hk, hZ, hT1⟩; simp only [lpS, LPXB]; (try dsimp only at hk hZ hT1); obtain ⟨z1, z2⟩ := hZ.at hf; rw [hnr, A5r] at z2; obtain ⟨z5, z6⟩ := hZ.at hnb; rw [hnr2, A5r] at z6; have z3 := hZ.rn; rcases cl2 hk ya with ⟨hlt, wk⟩ | ⟨hlt, rfl⟩; have wc : IntKind.wrap .i64 (X.c + (k : Int)) = X.c + (k : Int) := zh; have c2 : X.c + (k : Int) < (nr : Int) := ya; have c3 : (0 : Int) <= X.c + (k : Int) := ya; have c4 : (X.c + (k : Int)).toNat < nr := ya; have k2 : k < nr2 := ya; have hto := hZ.rok hnb (a := (k : Int)) ⟨by omega, by omega⟩; have hfr := hZ.rok hf (a := X.c + (k : Int)) ⟨c3, by omega⟩)
  | (refine zj ?_; refine a1c hfk (fun d hd => ?_) rfl (b4u (.r nb k) (SL.r f (X.c + (k : Int)).toNat).loc hCT hB yb hZ (by simpa using hto) (hZ.gets (.r f (X.c + (k : Int)).toNat)) (a4t hfr) rfl ?_) ?_; (focus (cases hd; exact A5l rfl)); (focus (first | rfl | (simp [ninL, ninO, a1h, nins, nin, zk, mapO, a1f, ze, hdN, *]; done))); (rintro r' H' ⟨rfl, Z2, h2, rfl, hZ2, hT2⟩))
  | (refine ye ?_; refine a0b (⟨(k + 1, (Z2, h2)), by omega, hZ2, hT1.stepk hT2 f4a⟩) z2p yf)
  | (refine zf ?_; refine a4y (j := 2) (hB _ _ _ _ hy hZ) rfl ⟨rfl, Z, u, rfl, hZ, hT1.callN (fun h => by omega)⟩ trivial)
  | with_reducible first | refine a2w ?_ | refine a4r ?_ | refine a0n (id := 1) 10 a0d yc fun K hK => ?_ | refine yo ?_ | refine stpK ?_; intro K hK | refine stpC ?_; intro T E hT hE | refine stp2 ?_ ?_ <;> intro h | refine yg ?_; clear hK K | refine yh ?_; clear hT hE T E
  | simp [*, -List.all_flatten, -List.all_eq_true, DEFM, fB, yu, hdN, ze, wy, anR, y3, rmvs, za, FnD.row, Ins.row]
theorem f2l (hCT : CT p m fk) (hfk : fnOk Tp fk = true) (hf : f < p.fu.length) (hy : Shp p Y) (hB : BsM p 2 B) (hnr : p.fu[f].regs = (nr : Int)) (hxb : X.b = (nb : Int)) (hnb : nb < p.fu.length) (hnr2 : p.fu[nb].regs = (nr2 : Int)) (hnp : p.fu[nb].params = (np : Int)) (h1 : np <= nr2) (h2 : nr2 <= 64) (h3 : nr <= 64) (hc0 : 0 <= X.c) (hc1 : X.c + np <= nr) (q1 : X.op = 26) (q2 : ¬ X.a < 0) (q3 : X.a < (nr : Int)) (hcl : (p.fu[nb]'hnb).code.length <= 1000) (hg : ∀ n ∈ (p.fu[nb]'hnb).code, n.op = 30 -> n.a < (nr2 : Int)) : FCr Tp Gl 175 [.ptr [81] 8 0 0, .agg X.row, .sl [83, f] 1 0 nr, .clo fk [] [.ptr [88] 1 0 0]] (HP [] B (MF p Y g)) (OutT p m B (b8d f X nb np (p.fu[nb]'hnb).code) Y g) := by
 have fB : ∀ r, B (2 :: r) = none := fun r => (hB Y g Y g hy hy).fb 2 r yb
 have yl3 := hy.rn
 have hi1 : ∀ (L : LF) (Z : Pts) (h : Bool), inH (HP L B (MF p Z h)) [88] := fun L Z h => a5m
 have hi2 : ∀ (L : LF) (Z : Pts) (h : Bool), inH (HP L B (MF p Z h)) [81] := fun L Z h => a1g a4j
 have hi3 : ∀ (L : LF) (Z : Pts) (h : Bool), Shp p Z -> inH (HP L B (MF p Z h)) [83, f] := fun L Z h hZ => a1g (a6t (hZ.at hf).1)
 have q4 : 0 <= X.a := by omega
 have q5 : X.a.toNat < nr := by omega
 refine zd Tryz.f175 [] 12 90 [23, 22, 58, 57, 56] 2 ?_
 repeat' first
  | with_reducible first | refine a0f (id := 5) [] 19 a0d yc fun K hK => ?_ | refine a0f (id := 12) [] 18 a0d yc fun K hK => ?_ | refine a2m ?_
  | (refine yi ?_; refine a0e (σ := {x : Nat × (Pts × Bool) // x.1 <= np /\ Shp p x.2.1 /\ TR m (prC f X nb x.1) (prC f X nb x.1) Y g x.2.1 x.2.2}) (fun y => [(9, .undef)]) [22] (fun y => [(23, .int .i64 (y.1.1 : Int))]) [] (fun y => []) (fun y => MF p y.1.2.1 y.1.2.2) (fun y => np - y.1.1) ⟨(0, (Y, g)), A2a _, hy, TR.id (f4b _ _ _ _)⟩ z2o ?_; rintro ⟨⟨k, ⟨Z, u⟩⟩, hk, hZ, hT1⟩; simp only [lpS, LPXB]; (try dsimp only at hk hZ hT1); obtain ⟨z1, z2⟩ := hZ.at hf; rw [hnr, A5r] at z2; obtain ⟨z5, z6⟩ := hZ.at hnb; rw [hnr2, A5r] at z6; have z3 := hZ.rn; rcases cl2 hk ya with ⟨hlt, wk⟩ | ⟨hlt, rfl⟩; have wc : IntKind.wrap .i64 (X.c + (k : Int)) = X.c + (k : Int) := zh; have c2 : X.c + (k : Int) < (nr : Int) := ya; have c3 : (0 : Int) <= X.c + (k : Int) := ya; have c4 : (X.c + (k : Int)).toNat < nr := ya; have k2 : k < nr2 := ya; have hto := hZ.rok hnb (a := (k : Int)) ⟨by omega, by omega⟩; have hfr := hZ.rok hf (a := X.c + (k : Int)) ⟨c3, by omega⟩)
  | (refine zj ?_; refine a1c hfk (fun d hd => ?_) rfl (b4u (.r nb k) (SL.r f (X.c + (k : Int)).toNat).loc hCT hB yb hZ (by simpa using hto) (hZ.gets (.r f (X.c + (k : Int)).toNat)) (a4t hfr) rfl ?_) ?_; (focus (cases hd; exact A5l rfl)); (focus (first | rfl | (simp [ninL, ninO, a1h, nins, nin, zk, mapO, a1f, ze, hdN, *]; done))); (rintro r' H' ⟨rfl, Z2, h2, rfl, hZ2, hT2⟩))
  | (refine ye ?_; refine a0b (⟨(k + 1, (Z2, h2)), by omega, hZ2, hT1.stepk hT2 f4a⟩) z2p yf)
  | (refine yi ?_; refine a0e (σ := {x : Nat × (Pts × Bool) // x.1 <= (p.fu[nb]'hnb).code.length /\ Shp p x.2.1 /\ TR m (rtC f X nb (p.fu[nb]'hnb).code x.1) (rtC f X nb (p.fu[nb]'hnb).code x.1) Z u x.2.1 x.2.2}) (fun y => [(11, .undef)]) [57, 56] (fun y => [(58, .int .i64 (y.1.1 : Int))]) [[2, 11]] (fun y => []) (fun y => MF p y.1.2.1 y.1.2.2) (fun y => (p.fu[nb]'hnb).code.length - y.1.1) ⟨(0, (Z, u)), A2a _, hZ, TR.id (g6z _ _ _ _ _)⟩ (gk3i (j := 2) [] (hB _ _ _ _ hy hZ) zp zp zp zp zp zp zp) ?_; rintro ⟨⟨k, ⟨V, v⟩⟩, hk2, hV, hT3⟩; simp only [lpS, LPXB]; (try dsimp only at hk2 hV hT3); obtain ⟨v1, v2⟩ := hV.at hf; rw [hnr, A5r] at v2; obtain ⟨v5, v6⟩ := hV.at hnb; rw [hnr2, A5r] at v6; have v3 := hV.rn; rcases cl2 hk2 ya with ⟨hlk, wk⟩ | ⟨hlk, rfl⟩; have hgl := hg (p.fu[nb]'hnb).code[k] (A5p hlk); have hga := hV.rok hf (a := X.a) ⟨by omega, by omega⟩; by_cases r1 : (p.fu[nb]'hnb).code[k].op = 30; rotate_left; have hno : ¬ ((p.fu[nb]'hnb).code[k].op = 30 /\ 0 <= (p.fu[nb]'hnb).code[k].a) := (fun h => r1 h.1); rotate_right; by_cases r2 : 0 <= (p.fu[nb]'hnb).code[k].a; rotate_left; have hno : ¬ ((p.fu[nb]'hnb).code[k].op = 30 /\ 0 <= (p.fu[nb]'hnb).code[k].a) := (fun h => r2 h.2); rotate_right; have hgl2 := hgl r1; have hgm := hV.rok hnb (a := (p.fu[nb]'hnb).code[k].a) ⟨r2, by omega⟩; have g4 : ((p.fu[nb]'hnb).code[k].a).toNat < nr2 := ya; have g5 : (p.fu[nb]'hnb).code[k].a < (nr2 : Int) := ya)
  | (refine zj ?_; refine a1c hfk (fun d hd => ?_) rfl (b4u (.r f X.a.toNat) (SL.r nb ((p.fu[nb]'hnb).code[k].a).toNat).loc hCT hB yb hV hga (hV.gets (.r nb ((p.fu[nb]'hnb).code[k].a).toNat)) (a4t hgm) rfl ?_) ?_; (focus (cases hd; exact A5l rfl)); (focus (first | rfl | (simp [ninL, ninO, a1h, nins, nin, zk, mapO, a1f, ze, hdN, *]; done))); (rintro r' H' ⟨rfl, V2, v2_, rfl, hV2, hT4⟩))
  | (refine ye ?_; refine a0b (⟨(k + 1, (V2, v2_)), by omega, hV2, hT3.stepk hT4 (g6x hlk r1 r2)⟩) (gk3i (j := 2) [] (hB _ _ _ _ hy hV2) zp zp zp zp zp zp zp) yf)
  | (refine ye ?_; refine a0b (⟨(k + 1, (V, v)), by omega, hV, hT3.congr (g6y hlk hno)⟩) (gk3i (j := 2) [] (hB _ _ _ _ hy hV) zp zp zp zp zp zp zp) yf)
  | (refine zf ?_; refine a4y (j := 2) (hB _ _ _ _ hy hV) rfl ⟨rfl, V, v, rfl, hV, hT1.callY hT3 ⟨q1, by omega⟩⟩ trivial)
  | with_reducible first | refine a2w ?_ | refine a4r ?_ | refine a0n (id := 1) 10 a0d yc fun K hK => ?_ | refine yo ?_ | refine stpK ?_; intro K hK | refine stpC ?_; intro T E hT hE | refine stp2 ?_ ?_ <;> intro h | refine yg ?_; clear hK K | refine yh ?_; clear hT hE T E
  | simp [*, -List.all_flatten, -List.all_eq_true, DEFM, fB, yu, hdN, ze, wy, anR, y3, rmvs, za, FnD.row, Ins.row]
theorem d2e (hp : VOk p) (hy : Shp p Y) (hB : BsM p 1 B) (o : Int) : FC Tp Gl 202 [.ptr [81] 8 0 0, .int .i64 o] (HP [] B (MF p Y g)) (.bool (wrR p Y o)) (HP [] B (MF p Y g)) := by
 have hsv := a0h hp
 have fB : ∀ r, B (1 :: r) = none := fun r => (hB Y g Y g hy hy).fb 1 r yb
 have yl3 := hy.rn
 have hi2 : ∀ (L : LF), inH (HP L B (MF p Y g)) [81] := fun L => a1g a4j
 refine yv Tryz.f202 [.tmp 4] 9 63 [15, 14, 13, 23, 22, 21, 28] 1 ?_
 repeat' first
  | with_reducible first | refine a0n (id := 10) 12 a0d yc fun K hK => ?_ | refine a0n (id := 14) 12 a0d yc fun K hK => ?_
  | (refine yi ?_; refine a0e (σ := {i : Nat // i <= p.fu.length /\ noW p Y o i 0}) (fun y => [(5, .undef), (6, .undef), (7, .undef), (8, .undef)]) [14, 13] (fun y => [(15, .int .i64 (y.1 : Int))]) [[1, 6], [1, 8]] (fun y => []) (fun y => MF p Y g) (fun y => p.fu.length - y.1) ⟨0, by simp, g1l p Y o⟩ z2y ?_; rintro ⟨i, hi, hk⟩; simp only [lpS, LPXB]; (try dsimp only at hi hk); rcases a0c hi with hlt | ⟨hlt, rfl⟩; rotate_left; have e := f1n hk; rotate_left; have wi := wli hlt z1t; have hcv := b9n hp hlt; obtain ⟨yl1, yl2⟩ := hy.at hlt; have hrr := hp.regs (A5p hlt); obtain ⟨nr, hnr⟩ : ∃ nr : Nat, (p.fu[i]'hlt).regs = (nr : Int) := ⟨(p.fu[i]'hlt).regs.toNat, by have := hrr.p0; have := hrr.p1; omega⟩; rw [hnr, A5r] at yl2)
  | (refine yi ?_; refine a0e (σ := {j : Nat // j <= (p.fu[i]'hlt).code.length /\ noW p Y o i j}) (fun y => [(7, .undef), (8, .undef)]) [22, 21, 15, 14, 13] (fun y => [(23, .int .i64 (y.1 : Int))]) [[1, 8]] (fun y => []) (fun y => MF p Y g) (fun y => (p.fu[i]'hlt).code.length - y.1) ⟨0, by simp, hk⟩ z2y ?_; rintro ⟨j, hj, hkj⟩; simp only [lpS, LPXB]; (try dsimp only at hj hkj); rcases a0c hj with hlk | ⟨hlk, rfl⟩; have wk := wli hlk ya; rcases wr5 ((p.fu[i]'hlt).code[j]'hlk).op with q1 | ⟨q1, q2⟩ | ⟨q1, q2, q3⟩ | ⟨q1, q2, q3, q4⟩ | ⟨q1, q2, q3, q4⟩; (have hra := a3l hp hlt hlk (by rw [q1]; decide); obtain ⟨r3, r4⟩ := id hra; have r2 : ((p.fu[i]'hlt).code[j]'hlk).a.toNat < nr := ya; have r5 : ((p.fu[i]'hlt).code[j]'hlk).a < (nr : Int) := ya; have hok := hy.rok hlt hra; by_cases hm : o ∈ getS Y (.r i ((p.fu[i]'hlt).code[j]'hlk).a.toNat); have e := b8t (x := Y) (o := o) hlt hlk z2q); rotate_left; rotate_left; (have hra := a3l hp hlt hlk (by rw [q2]; decide); obtain ⟨r3, r4⟩ := id hra; have r2 : ((p.fu[i]'hlt).code[j]'hlk).a.toNat < nr := ya; have r5 : ((p.fu[i]'hlt).code[j]'hlk).a < (nr : Int) := ya; have hok := hy.rok hlt hra; by_cases hm : o ∈ getS Y (.r i ((p.fu[i]'hlt).code[j]'hlk).a.toNat); have e := b8t (x := Y) (o := o) hlt hlk z2q); rotate_left; rotate_left; (have hra := a5l hp hlt hlk (by rw [q3]; decide); obtain ⟨r3, r4⟩ := id hra; have r2 : ((p.fu[i]'hlt).code[j]'hlk).b.toNat < nr := ya; have r5 : ((p.fu[i]'hlt).code[j]'hlk).b < (nr : Int) := ya; have hok := hy.rok hlt hra; by_cases hm : o ∈ getS Y (.r i ((p.fu[i]'hlt).code[j]'hlk).b.toNat); have e := b8t (x := Y) (o := o) hlt hlk z2q); rotate_left; rotate_left; (have hra := a5l hp hlt hlk (by rw [q4]; decide); obtain ⟨r3, r4⟩ := id hra; have r2 : ((p.fu[i]'hlt).code[j]'hlk).b.toNat < nr := ya; have r5 : ((p.fu[i]'hlt).code[j]'hlk).b < (nr : Int) := ya; have hok := hy.rok hlt hra; by_cases hm : o ∈ getS Y (.r i ((p.fu[i]'hlt).code[j]'hlk).b.toNat); have e := b8t (x := Y) (o := o) hlt hlk z2q); rotate_left; rotate_left)
  | (refine ye ?_; refine a0b (⟨j + 1, by omega, g1j hkj hlt hlk (by simp only [wrI]; first | (rw [a7u] at hm; rintro (⟨h', hm'⟩ | ⟨h', hm'⟩) <;> first | omega | exact hm hm') | omega)⟩) z2y yf)
  | (refine ye ?_; refine a0b (⟨i + 1, by omega, g1k hlt hkj⟩) z2y yf)
  | ((with_reducible refine cgH ?_); refine a3d rfl (d4o (t := SL.r i ((p.fu[i]'hlt).code[j]'hlk).a.toNat) _ hB yb hy hok yn y90) ?_)
  | ((with_reducible refine cgH ?_); refine a3d rfl (d4o (t := SL.r i ((p.fu[i]'hlt).code[j]'hlk).b.toNat) _ hB yb hy hok yn y90) ?_)
  | ((with_reducible refine b8o (j := 1) (hB _ _ _ _ hy hy) ?_ ?_ ?_ ?_); (iterate 2 (focus rfl)); (focus (first | rfl | (simp [*]; done))); focus (first | trivial | (simp [nin, nins, a0p, inH, HPXB]; done)))
  | refine yo ?_
  | (refine stpK ?_; intro K hK)
  | (refine stpC ?_; intro T E hT hE)
  | (refine stp2 ?_ ?_ <;> intro h)
  | (refine yg ?_; clear hK K)
  | (refine yh ?_; clear hT hE T E)
  | simp [*, -List.all_flatten, -List.all_eq_true, DEFM, fB, yu, hdN, ze, wy, anR, y3, rmvs, za, FnD.row, Ins.row]
 all_goals first
  | (simp [f1n hk]; done)
  | (have e := b8t (x := Y) (o := o) hlt hlk z2q; simp [e]; done)
end Go.Je
namespace Go.Je
open Go Go.FM Go.Gv Go.RowKit Go.Proofs Go.Shelf Go.Sort
def cpR : Ren := ⟨fun n => match n with | 20 => 133 | _ => 0, fun n => match n with | 0 => 0 | 3 => 3 | 4 => 4 | 22 => 36 | _ => 0, fun _ => 0⟩
theorem cpL : Lays2.n20 Tp cpR where
 mixed := by kernel_rfl
 f20 := by kernel_rfl
 t0 := by kernel_rfl
 a0 := fun w => by kernel_rfl
 z0 := fun w => by kernel_rfl
 v0 := fun w => by kernel_rfl
 t3 := by kernel_rfl
 a3 := fun w => by kernel_rfl
 z3 := fun w => by kernel_rfl
 v3 := fun w => by kernel_rfl
 t4 := by kernel_rfl
 a4 := fun w => by kernel_rfl
 z4 := fun w => by kernel_rfl
 v4 := fun w => by kernel_rfl
 t22 := by kernel_rfl
 a22 := fun w => by kernel_rfl
 z22 := fun w => by kernel_rfl
 v22 := fun w => by kernel_rfl
 i3 := by kernel_rfl
theorem d4s {H : Heap} {l : FM.Loc} {T : TypeId} {s : List Int} {n : Nat} (hn : s.length = n) (hl : H l = some (.cells T 1 (ints s))) (hs : s ≠ []) (hz : n < 4611686018427387904) : FC Tp Gl 132 [.sl l 1 0 n] H (.tup []) (upd H l (.cells T 1 (ints (srt s)))) := by
 subst hn
 exact c7k (R := fun _ _ => .tuple #[]) hl hs (a5y s) (fun w blk cap h1 h2 h3 => by
  have h : Calls Tp 132 #[.slice (some ⟨blk, 0, none⟩) s.length cap] w _ := Any.slices_Sort_int sL blk 0 cap s w h1 h2 hz
  exact h) fun _ _ _ _ _ _ => .tup [] [] .nil
theorem b8v {H : Heap} {l : FM.Loc} {T : TypeId} {s : List Int} {n : Nat} (hn : s.length = n) (hl : H l = some (.cells T 1 (ints s))) (hs : s ≠ []) (hz : n < 4611686018427387904) : FC Tp Gl 133 [.sl l 1 0 n] H (.sl l 1 0 (Lib.compact s).length) (upd H l (.cells T 1 (ints (Lib.compact s ++ List.replicate (s.length - (Lib.compact s).length) 0)))) := by
 subst hn
 have hc : (Lib.compact s).length <= s.length := by
  unfold Lib.compact Lib.compactUpTo
  rw [A1l]
  exact A0a (A3y _ _) yd
 refine c7k (R := fun blk cap => .slice (some ⟨blk, 0, none⟩) (Lib.compact s).length cap) hl hs yz (fun w blk cap h1 h2 h3 => ?_) fun w' F m cap h1 h2 => ?_
 . have h : Calls Tp 133 #[.slice (some ⟨blk, 0, none⟩) s.length cap] w _ := Any.slices_Compact_int cpL blk 0 cap s w h1 (A0a (A2e hz) yb) h3
   refine h.mono ?_
   rintro e w' ⟨h4, q, h5⟩
   exact ⟨h4, q, #[], by rw [h5, grow_empty]⟩
 . exact .sl l 1 0 _ cap 0 z1a ya (.inr rfl) ya
end Go.Je
namespace Go.Je
open Go Go.FM Go.Gv Go.Proofs
variable {B H : Heap} {b s : List Int} {c : List Ins} {i j k n : Nat} {l : FM.Loc} {o : FO}
theorem cgB {P : Program} {c : Cfg} {ops : Array Oper} {o : Oper} {rest : List Oper} {K : Fs -> Prop} {s : Fs} {f : FuncId} {b : Bool} {A : List FV} (h : a9b P c ops o rest K s f b A) : a9b P c ops o rest K s f b A := h
theorem c1a (a b : List Int) : (ints (a ++ b)).take a.length = ints a := by simp [ints]
theorem e2v (n : Int) : a0r [] n = [n] := rfl
theorem f9t (h : s ≠ []) : srt s ≠ [] := fun e => h (A5u (by rw [<- a5y s, e]; rfl))
theorem b5y {o' : FO} : upd (upd H l o) l o' = upd H l o' := by
 funext k
 by_cases e : k = l <;> simp [upd, e]
theorem d4l (hs : s ≠ []) (hz : s.length < 4611686018427387904) : FC Tp Gl 165 [.sl l 1 0 s.length] (upd H l (.cells 3 1 (ints s))) (.sl l 1 0 (s.foldl a0r []).length) (upd H l (.cells 3 1 (ints (s.foldl a0r [] ++ List.replicate (s.length - (s.foldl a0r []).length) 0)))) := by
 refine z1s Tryz.f165 [.tmp 2] 3 7 [] 0 ?_
 repeat' first
  | with_reducible first | refine dz4 ?_ | refine stpK ?_; intro K hK | refine stpC ?_; intro T E hT hE | refine stp2 ?_ ?_ <;> intro h | refine a3h (d4s (s := s) (T := 3) rfl z1a hs hz) ?_ | refine a3h (b8v (s := srt s) (T := 3) (a5y s) z1a (f9t hs) hz) ?_ | refine yg ?_; clear hK K | refine yh ?_; clear hT hE T E
  | simp [*, -List.all_flatten, -List.all_eq_true, DEFB, b5y, b6d, a5y, b4o, a0p]
theorem e3i (hn : s.length = n) (h : H l = some (.cells 3 1 (ints s))) (hs : s ≠ []) (hz : n < 4611686018427387904) : FC Tp Gl 165 [.sl l 1 0 n] H (.sl l 1 0 (s.foldl a0r []).length) (upd H l (.cells 3 1 (ints (s.foldl a0r [] ++ List.replicate (s.length - (s.foldl a0r []).length) 0)))) := by
 subst hn
 have := d4l (H := H) (l := l) hs hz
 rwa [a9z h] at this
theorem d4w {nm : ByteArray} {pa rg : Int} (hc : CodeOk c) (hi : i < c.length) : Pq 131 [.agg [.str nm, .int .i64 pa, .int .i64 rg, .list 5 (inss c)], .int .i64 i] (.list 1 (ints (nx c i))) := by
 have hn := c5v hi
 have h1000 := hc.n1000
 have wi : IntKind.wrap .i64 ((i : Int) + 1) = (i : Int) + 1 := by rw [IntKind.wrap_i64]; omega
 have hb := fun e => (hc.sel i hi e).1
 have wb : c[i].op = 50 -> IntKind.wrap .i64 ((i : Int) + 1 + c[i].b) = (i : Int) + 1 + c[i].b := fun e => by
  have := hb e
  rw [IntKind.wrap_i64]; omega
 have wl : IntKind.wrap .i64 ((c.length : Int) - 1) = (c.length : Int) - 1 := by rw [IntKind.wrap_i64]; omega
 have hd1 : ((0 : Int) <= (i : Int) /\ (i : Int) <= (c.length : Int) - 1) := by omega
 refine yq Tryz.f131 [.tmp 4] 6 48 [19] 0 ?_
 repeat' first
  | refine dz7 ?_
  | (refine stpK ?_; intro K hK)
  | (refine stpC ?_; intro T E hT hE)
  | (refine stp2 ?_ ?_ <;> intro h)
  | refine cpG (c31 _ _ _) ?_
  | (refine wg ?_; refine a3h (e3i (n := 2) (s := [(i : Int) + 1, c[i].c]) (l := [0, 35]) rfl (by simp [HPXB, a4p, a1z, a0j] <;> fail) yd yd) ?_)
  | refine dz8 ?_
  | (refine yg ?_; clear hK K)
  | (refine yh ?_; clear hT hE T E)
  | simp [*, -List.all_flatten, -List.all_eq_true, yl, asR, a0q, Ins.row, c1a, e2v, a1z, a4p, a0j, A2i, A2h]
def a1w (b : Bool) : List FV := [.bool b]
def a0k (L : List Bool) : List (List FV) := L.map a1w
theorem a0u (L : List Bool) : (a0k L).length = L.length := by simp [a0k]
theorem e8b {L : List Bool} (h : i < (a0k L).length) : (a0k L)[i] = a1w (L[i]'(by rwa [a0u] at h)) := by simp [a0k]
theorem a1l {L : List Bool} (h : i < L.length) : (a0k L)[i]? = some [.bool L[i]] := by simp [a0k, a1w, h]
theorem a1b (L : List Bool) (i : Nat) (b : Bool) (h : i < L.length) : (a0k L).modify i (fun r => FV.bool b :: r.tail) = a0k (L.set i b) := by
 refine A0e (by simp [a0k]) fun j h1 h2 => ?_
 rw [A2w]
 split
 . rename_i e
   subst e
   simp [a0k, a1w]
 . rename_i e
   simp [a0k, List.getElem_set_ne e]
theorem a0i (L : List Bool) : nlss (a0k L) = true := by
 induction L with
 | nil => rfl
 | cons r rs ih => simpa [a0k, nlss, nls, nl, a1w] using ih
theorem a1r (L : List Bool) : (a0k L).flatten.all FV.cellV = true := by
 induction L with
 | nil => rfl
 | cons r rs ih => simp [a0k, FV.cellV, a1w]
theorem a1k (n : Nat) (b : Bool) : List.replicate n [FV.bool b] = a0k (List.replicate n b) := by simp [a0k, a1w]
structure BsV (B : Heap) : Prop where
 fr : ∀ k r, k <= 1 -> B (k :: r) = none
 f62 : B [62] = none
 clo : Clo B
theorem BsV.c5 (h : BsV B) : Clo (ext B noH) := by rw [a3r]; exact h.clo
theorem BsV.l5 (_ : BsV B) : ∀ l, inH (HP [] B noH) l -> ext B noH l ≠ none := fun _ h => h
theorem b1k (U : FM.Loc -> Prop) : ∀ x : List Bool, a1h U (a0k x)
 | [] => trivial
 | _ :: x => ⟨⟨trivial, trivial⟩, b1k U x⟩
theorem g7v (hB : BsV B) {L : LF} {x : List Bool} (hl : ∀ p ∈ L, B p.1 = none) (hL : HP L B noH [62] = some (.cells 4 1 (a0k x))) : LFin (HP [] B noH) (fun r1 H1 => r1 = .sl [62] 1 0 n /\ H1 = HP [([62], .cells 4 1 (a0k x))] B noH) (HP L B noH) (some [.sl [62] 1 0 n]) := by
 have e : ∀ (L : LF) (B : Heap), HP L B noH = updL L B := fun L B => by unfold HP; rw [a3r]
 refine ⟨_, ⟨rfl, rfl⟩, fun k o hk => ?_, fun k hk => ?_, ?_, fun k o hk => ?_⟩
 . rw [e] at hk ⊢
   simp only [yw, upd] at hk
   split at hk
   . rename_i ek; subst ek
     rw [e] at hL
     rw [hL]; exact hk
   . rw [a3i fun p hp ep => ?_]
     . exact hk
     . have := hl p hp
       rw [ep, hk] at this; cases this
 . rw [e] at hk ⊢
   simp only [yw, upd] at hk ⊢
   split
   . simp
   . exact hk
 . show HP [([62], FO.cells 4 1 (a0k x))] B noH [62] ≠ none
   rw [e]; simp [yw, upd]
 . rw [e] at hk
   simp only [yw, upd] at hk
   split at hk
   . obtain rfl := A5o hk
     exact b1k _ x
   . refine a1t (fun q hq => ?_) (hB.clo k o hk)
     rw [e]
     simp only [yw, upd]
     split
     . simp
     . exact hq
theorem a2b (n : Nat) (l : List Bool) : (a0k l).take n = a0k (l.take n) := by simp [a0k, A2y]
theorem a9w (l : List Bool) (k : Nat) : frzR H (k + 1) (a0k l) = some (a0k l) := by unfold frzR; rw [if_pos (a0i l)]
theorem szB (h : n <= 10000000000000) : (n + n / 4 + 192) * 8 <= 140737488355328 := by omega
theorem c9x (s j : List Int) (v : Int) : List.take s.length (ints (s ++ j)) ++ [[.int .i64 v]] = ints (s ++ [v]) := by simp [ints, a0j]
theorem h0n {P : Program} {G : List (Nat × List Value)} {f : FuncId} {A A2 : List FV} {r : FV} (ha : asRs A A2) (h : PC P G f A2 r) : PC P G f A r := fun w F m vs hF hG hv hH => h w F m vs hF hG (hv.asR ha) hH
theorem d4r (n : Int) : Pq 49 [.nils, .int .i64 n] (.list 1 (ints [n])) := h0n (by simp [asRs, asR, a1z]) (c2w [] n yd)
def wa := cj @a0u @e8b
def z14 := cj @a0i @a1k
theorem e9a {nm : ByteArray} {pa rg : Int} (hc : CodeOk c) (hi : i < c.length) : Pq 130 [.agg [.str nm, .int .i64 pa, .int .i64 rg, .list 5 (inss c)], .int .i64 i] (.int .i64 (hd c i)) := by
 have h1000 := hc.n1000
 refine yq Tryz.f130 [.tmp 4] 5 19 [] 0 ?_
 repeat' first
  | (refine yi ?_; refine a0e (σ := {k : Nat // k <= i /\ hd c k = hd c i}) (fun y => [(1, .int .i64 (y.1 : Int))]) [] (fun y => []) [] (fun y => []) (fun y => noH) (fun y => y.1) ⟨i, A5s _, rfl⟩ yt ?_; rintro ⟨k, hk, he⟩; simp only [lpS, LPXB]; (try dsimp only at hk); have hkl : k < c.length := ya; have wk : IntKind.wrap .i64 (k : Int) = (k : Int) := zh; rcases A1v k with e0 | h0; subst e0; have hz : hd c i = 0 := (by rw [<- he]; rfl); rotate_left; by_cases o51 : c[k].op = 51; obtain ⟨m, rfl⟩ : ∃ m, k = m + 1 := ⟨k - 1, by omega⟩; have wm : IntKind.wrap .i64 (m : Int) = (m : Int) := zh; have p1 : (0 : Int) <= (m : Int) + 1 := ya; have p2 : (0 : Int) < (m : Int) + 1 := ya; have p3 : (m : Int) + 1 < (c.length : Int) := ya; have hm : hd c m = hd c i := (by rw [<- he, hd_s hkl o51]); rotate_left; have hz : hd c i = k := (by rw [<- he]; exact a5o hkl o51); have h0' : (0 : Int) < (k : Int) := ya; rotate_left)
  | (refine ye ?_; refine a0b (⟨m, by omega, hm⟩) yt yf)
  | refine yo ?_
  | (refine stpK ?_; intro K hK)
  | (refine stpC ?_; intro T E hT hE)
  | (refine stp2 ?_ ?_ <;> intro h)
  | (refine yg ?_; clear hK K)
  | (refine yh ?_; clear hT hE T E)
  | simp [*, -List.all_flatten, -List.all_eq_true, yl, asR, a0q, Ins.row]
theorem f3h (l : List Bool) (a b : Nat) : (l.set a true).set b true = (l.set b true).set a true := by
 by_cases e : a = b
 . subst e; rfl
 . exact List.set_comm true true e
theorem ld_j (h : k < c.length) (e : c[k].op = 16 \/ c[k].op = 17 \/ c[k].op = 45) : ldA c b (k + 1) = ((ldA c b k).set c[k].c.toNat true).set (k + 1) true := by
 rw [f5g, b2l h, if_pos e]
 have e2 : ((k : Int) + 1).toNat = k + 1 := by omega
 simp only [mkL, A2i, A2h, mk1, e2]
theorem ld_r (h : k < c.length) (e : ¬ (c[k].op = 16 \/ c[k].op = 17 \/ c[k].op = 45)) (e3 : c[k].op = 30) : ldA c b (k + 1) = (ldA c b k).set (k + 1) true := by
 rw [f5g, b2l h, if_neg e, if_pos e3]
 have e2 : ((k : Int) + 1).toNat = k + 1 := by omega
 simp only [mkL, A2i, A2h, mk1, e2]
theorem ld_n (h : k < c.length) (e : ¬ (c[k].op = 16 \/ c[k].op = 17 \/ c[k].op = 45)) (e3 : ¬ c[k].op = 30) : ldA c b (k + 1) = ldA c b k := by
 rw [f5g, b2l h, if_neg e, if_neg e3]; rfl
theorem g7x (c : List Ins) : (List.replicate (c.length + 1) false).set 0 true = ldA c [0] 0 := rfl
theorem c4b {L : List Int} (h : i < L.length) : (ints L)[i]? = some [.int .i64 L[i]] := by simp [ints, a0j, h]
theorem c4a (L : List Int) (i : Nat) (v : Int) (h : i < L.length) : (ints L).modify i (fun r => FV.int .i64 v :: r.tail) = ints (L.set i v) := by
 refine A0e (by simp [ints]) fun j h1 h2 => ?_
 rw [A2w]
 split
 . rename_i e
   subst e
   simp [ints, a0j]
 . rename_i e
   simp [ints, List.getElem_set_ne e]
theorem c1b (n : Nat) (v : Int) : List.replicate n [FV.int .i64 v] = ints (List.replicate n v) := by simp [ints, a0j]
def bRow (b : Nat × Nat) (v : FV) : List FV := [.int .i64 b.1, .int .i64 b.2, v]
def brs (B : List (Nat × Nat)) : List (List FV) := B.map fun b => bRow b .nils
def bxV (c : List Ins) (B : List (Nat × Nat)) : List (List FV) := B.map fun b => bRow b (.list 1 (ints (nxB c b)))
def bmx (c : List Ins) (j : Nat) : List (List FV) := bxV c ((blks c).take j) ++ brs ((blks c).drop j)
def bmj (c : List Ins) (j : Nat) (b : Nat × Nat) (v : FV) : List (List FV) := bxV c ((blks c).take j) ++ bRow b v :: brs ((blks c).drop (j + 1))
theorem a4f (B : List (Nat × Nat)) : (brs B).length = B.length := by simp [brs]
theorem a5i (c : List Ins) (B : List (Nat × Nat)) : (bxV c B).length = B.length := by simp [bxV]
theorem e1q : (bmx c j).length = (blks c).length := by simp [bmx, a4f, a5i]; omega
theorem c2e (h : j < (blks c).length) (b : Nat × Nat) (v : FV) : (bmj c j b v).length = (blks c).length := by simp [bmj, a4f, a5i]; omega
theorem a4o : ∀ B : List (Nat × Nat), nlss (brs B) = true
 | [] => rfl
 | _ :: B => by simpa [brs, nlss, nls, nl, bRow] using a4o B
theorem a8d (c : List Ins) : ∀ B : List (Nat × Nat), nlss (bxV c B) = true
 | [] => rfl
 | b :: B => by simpa [bxV, nlss, nls, nl, bRow, a0g] using a8d c B
theorem c9m (c : List Ins) (j : Nat) : nlss (bmx c j) = true := by rw [bmx, a1j, a8d, a4o]; rfl
theorem b8f (A B : List (Nat × Nat)) : brs (A ++ B) = brs A ++ brs B := by simp [brs]
theorem b8e (b : Nat × Nat) : brs [b] = [[.int .i64 b.1, .int .i64 b.2, .nils]] := rfl
theorem e1p : brs [] = [] := rfl
theorem g9u (c : List Ins) : bmx c 0 = brs (blks c) := by simp [bmx, bxV]
theorem f7h (c : List Ins) : bmx c (blks c).length = bxV c (blks c) := by simp [bmx, brs]
theorem g9t (h : j < (blks c).length) : bmx c j = bmj c j (blks c)[j] .nils := by
 unfold bmx bmj
 rw [A1r h]; rfl
theorem g9v (h : j < (blks c).length) : bmj c j (blks c)[j] (.list 1 (ints (nxB c (blks c)[j]))) = bmx c (j + 1) := by
 unfold bmx bmj
 rw [A0n h]
 unfold bxV
 rw [A1s, A3g]; rfl
theorem e1s (h : j < (blks c).length) (b : Nat × Nat) (v : FV) : (bmj c j b v)[j]? = some (bRow b v) := by
 unfold bmj
 have e : (bxV c ((blks c).take j)).length = j := by rw [a5i, A0j]; omega
 rw [A0k ya, e, A4y]; rfl
theorem e1r (h : j < (blks c).length) (b : Nat × Nat) (v : FV) (h' : j < (bmj c j b v).length) : (bmj c j b v)[j] = bRow b v := by
 have := e1s h b v
 rw [A5n h'] at this
 exact A5o this
theorem f7i (h : j < (blks c).length) (b : Nat × Nat) (v u : FV) (g : List FV -> List FV) (hg : g (bRow b v) = bRow b u) : (bmj c j b v).modify j g = bmj c j b u := by
 unfold bmj
 have e : (bxV c ((blks c).take j)).length = j := by rw [a5i, A0j]; omega
 refine A4c fun i => ?_
 rw [A5a]
 by_cases h1 : i < j
 . rw [A0f ya, A0f ya]
   have : ¬ j = i := by omega
   simp [this]
 . rw [A0k ya, A0k ya, e]
   by_cases h2 : i = j
   . subst h2
     simp [hg]
   . obtain ⟨q, hq⟩ : ∃ q, i - j = q + 1 := ⟨i - j - 1, by omega⟩
     have : ¬ j = i := by omega
     rw [hq]
     simp [this]
theorem d6p (β : FM.Loc -> Option FM.Loc) (c : List Ins) (j : Nat) (b : Nat × Nat) (v : FV) : renss β (bmj c j b v) = bmj c j b (ren β v) := by
 unfold bmj
 rw [a6a, a6y (a8d c _)]
 show _ ++ (rens β (bRow b v) :: renss β _) = _
 rw [a6y (a4o _)]
 rfl
theorem d8r (β : FM.Loc -> Option FM.Loc) (U : FM.Loc -> Prop) (c : List Ins) (j : Nat) (b : Nat × Nat) (v : FV) : a3z β U (bmj c j b v) ↔ inn β U v := by
 unfold bmj
 rw [a6d]
 constructor
 . intro h; exact h.2.1.2.2.1
 . intro h; exact ⟨b0o (a8d c _), ⟨trivial, trivial, h, trivial⟩, b0o (a4o _)⟩
theorem f0n (l0 : FM.Loc) (sz0 : Nat) (xs0 : List (List FV)) (c : List Ins) (j : Nat) (b : Nat × Nat) (v : FV) : fzss l0 sz0 xs0 (bmj c j b v) = bmj c j b (fz l0 sz0 xs0 v) := by
 unfold bmj
 rw [b7h, c1m (a8d c _)]
 show _ ++ (fzs l0 sz0 xs0 (bRow b v) :: fzss l0 sz0 xs0 _) = _
 rw [c1m (a4o _)]
 rfl
theorem f1c (h : j < (blks c).length) (b : Nat × Nat) (v u : FV) : (bmj c j b v).modify j (fun r => List.take 2 r ++ u :: List.drop 3 r) = bmj c j b u := f7i h b v u _ rfl
def rawN (c : List Ins) (h q : Nat) : List Int := ((nx c h).take q).map fun v => (nmF c v.toNat : Int)
theorem c8y {h q : Nat} (hq : q <= (nx c h).length) : (rawN c h q).length = q := by simp [rawN]; omega
theorem e9n (c : List Ins) (h : Nat) : rawN c h 0 = [] := by simp [rawN]
theorem e9m {h q : Nat} (hq : q < (nx c h).length) : rawN c h (q + 1) = rawN c h q ++ [(nmF c (nx c h)[q].toNat : Int)] := by
 unfold rawN
 rw [A0n hq, A1s]; rfl
theorem c8z (b : Nat × Nat) : (rawN c (hd c (b.2 - 1)) (nx c (hd c (b.2 - 1))).length).foldl a0r [] = nxB c b := by
 unfold rawN nxB
 rw [A0c]
theorem g2e (c : List Ins) : ((List.replicate (c.length + 1) false).set 0 true).set c.length true = ldA c [0, (c.length : Int)] 0 := by
 rw [g7y]
 simp [mkL, mk1]
theorem c9l (c : List Ins) : ∀ k, nmF c k <= k
 | 0 => A5s _
 | k + 1 => by
   have := c9l c k
   by_cases hl : (a1u c)[k + 1]? = some true
   . have : nmF c (k + 1) = nmF c k + 1 := by rw [nmF, c2g hl, A0b]; rfl
     omega
   . have : nmF c (k + 1) = nmF c k := by rw [nmF, c2h hl]; rfl
     omega
theorem c8g {w : World} {F : Nat -> Prop} {U : FM.Loc -> Prop} {m : FM.Loc -> Nat × Nat} {v : Value} (h : RF w F U m (.sl l 1 0 0) v) : ∃ A cap, v = .slice A 0 cap := by
 cases h with
 | sl _ _ _ _ cap o => exact ⟨_, _, rfl⟩
 | sl0 _ _ _ A => exact ⟨_, _, rfl⟩
theorem d4t (hn : s.length = n) (hl : H l = some (.cells 3 1 (ints s))) (hz : n < 4611686018427387904) : FC Tp Gl 132 [.sl l 1 0 n] H (.tup []) (upd H l (.cells 3 1 (ints (srt s)))) := by
 by_cases e : s = []
 . subst e
   subst hn
   have e2 : upd H l (.cells 3 1 (ints (srt []))) = H := by rw [show srt [] = [] by simp [srt]]; exact a9z hl
   rw [e2]
   refine b5w fun w F m vs hF hG hv hH => ?_
   obtain ⟨v, rfl, g⟩ := hv.single
   obtain ⟨A, cap, rfl⟩ := c8g g
   have h : Calls Tp 132 #[.slice A 0 cap] w _ := Any.slices_Sort_int_none sL A cap w
   refine h.mono ?_
   rintro e w' ⟨rfl, rfl⟩
   exact ⟨_, rfl, Go.RowKit.Below.refl _ _, .tup [] [] .nil⟩
 . exact d4s hn hl e hz
theorem b8w (hn : s.length = n) (hl : H l = some (.cells 3 1 (ints s))) (hz : n < 4611686018427387904) : FC Tp Gl 133 [.sl l 1 0 n] H (.sl l 1 0 (Lib.compact s).length) (upd H l (.cells 3 1 (ints (Lib.compact s ++ List.replicate (s.length - (Lib.compact s).length) 0)))) := by
 by_cases e : s = []
 . subst e
   subst hn
   have e2 : upd H l (.cells 3 1 (ints (Lib.compact [] ++ List.replicate (([] : List Int).length - (Lib.compact ([] : List Int)).length) 0))) = H := a9z hl
   rw [e2]
   refine b5w fun w F m vs hF hG hv hH => ?_
   obtain ⟨v, rfl, g⟩ := hv.single
   have g' := g
   obtain ⟨A, cap, rfl⟩ := c8g g
   have h : Calls Tp 133 #[.slice A 0 cap] w _ := Any.slices_Compact_int_empty cpL A cap w
   refine h.mono ?_
   rintro e w' ⟨rfl, rfl⟩
   exact ⟨_, rfl, Go.RowKit.Below.refl _ _, g'⟩
 . exact b8v hn hl e hz
structure DS where
 l : List Bool
 od : List Int
 on : Option Nat
 H : Heap
variable {S T : DS}
def onV (on : Option Nat) (n : Nat) : FV := match on with
 | none => .nils
 | some k => .sl [1, 100 + k, 33] 1 0 n
def d2x (on : Option Nat) (H : Heap) : Heap := match on with
 | none => H
 | some k => upd H [1, 100 + k, 33] .dead
def dsA (S : DS) (b : Int) : DS := ⟨mk1 S.l b, S.od, S.on, upd S.H [1, 14] (.cells 4 1 (a0k (mk1 S.l b)))⟩
def dsZ (u : Nat) (S : DS) (b : Int) : DS := ⟨S.l, S.od ++ [b], some u, upd (upd (d2x S.on (upd S.H [1, 100 + u, 32] (.cells 3 1 [[.int .i64 b]]))) [1, 100 + u, 33] (.cells 3 1 (ints (S.od ++ [b])))) [1, 5] (.cells 36 1 [[.sl [1, 100 + u, 33] 1 0 (S.od.length + 1)]])⟩
def b4q (c : List Ins) : Nat -> DS -> Int -> DS
 | 0, S, _ => S
 | m + 1, S, b => dsZ (S.l.count false) ((nxN c b.toNat).foldl (fun S v => if S.l[v.toNat]? = some true then S else b4q c m S v) (dsA S b)) b
def kidK (c : List Ins) (m : Nat) (S : DS) (s : List Int) : DS := s.foldl (fun S v => if S.l[v.toNat]? = some true then S else b4q c m S v) S
theorem d8h (c : List Ins) (m : Nat) (S : DS) (h : k < s.length) : kidK c m S (s.take (k + 1)) = if (kidK c m S (s.take k)).l[s[k].toNat]? = some true then kidK c m S (s.take k) else b4q c m (kidK c m S (s.take k)) s[k] := by
 unfold kidK
 rw [A0n h, A0z]
 rfl
theorem d5i (c : List Ins) (m : Nat) (S : DS) (b : Int) : b4q c (m + 1) S b = dsZ (S.l.count false) (kidK c m (dsA S b) (nxN c b.toNat)) b := rfl
def cloS : FV := .clo 135 [] [.ptr [1, 4] 1 0 0, .ptr [1, 3] 1 0 0, .ptr [1, 6] 1 0 0, .ptr [1, 5] 1 0 0]
structure DSok (c : List Ins) (S : DS) : Prop where
 len : S.l.length = (blks c).length
 h3 : S.H [1, 3] = some (.cells 84 1 [[.list 3 (bxV c (blks c))]])
 h4 : S.H [1, 4] = some (.cells 37 1 [[.sl [1, 14] 1 0 (blks c).length]])
 h14 : S.H [1, 14] = some (.cells 4 1 (a0k S.l))
 h6 : S.H [1, 6] = some (.cells 174 1 [[cloS]])
 h5 : S.H [1, 5] = some (.cells 36 1 [[onV S.on S.od.length]])
 hn : S.on = none -> S.od = []
 ho : ∀ k, S.on = some k -> S.H [1, 100 + k, 33] = some (.cells 3 1 (ints S.od)) /\ S.l.count false < k
 fr : ∀ k, k <= S.l.count false -> ∀ r, S.H (1 :: (100 + k) :: r) = none
 sz : S.od.length + S.l.count false <= (blks c).length
structure Mid (c : List Ins) (S T : DS) : Prop where
 ok : DSok c T
 up : ∀ v, isM S.l v -> isM T.l v
 cl : ∀ v, isM T.l v -> isM S.l v \/ ∀ w ∈ nxN c v.toNat, isM T.l w
 od : ∀ v, v ∈ T.od ↔ v ∈ S.od \/ (isM T.l v /\ ¬ isM S.l v)
 ct : T.l.count false <= S.l.count false
 sz : T.od.length + T.l.count false <= S.od.length + S.l.count false
 kp : ∀ q, S.l.count false < q -> S.on ≠ some q -> (∀ r, S.H (1 :: (100 + q) :: r) = none) -> (∀ r, T.H (1 :: (100 + q) :: r) = none) /\ T.on ≠ some q
structure Did (c : List Ins) (b : Int) (S T : DS) : Prop extends Mid c S T where
 mb : isM T.l b
 rc : RB c b.toNat -> (∀ v, isM S.l v -> RB c v.toNat) -> ∀ v, isM T.l v -> RB c v.toNat
theorem Mid.refl (h : DSok c S) : Mid c S S := ⟨h, fun _ h => h, fun _ h => .inl h, fun v => ⟨.inl, fun h => h.elim id fun h => absurd h.1 h.2⟩, A5s _, A5s _, fun _ _ h1 h2 => ⟨h2, h1⟩⟩
theorem Mid.trans {U : DS} (h : Mid c S T) (h' : Mid c T U) : Mid c S U := by
 refine ⟨h'.ok, fun v hv => h'.up v (h.up v hv), fun v hv => ?_, fun v => ?_, A0a h'.ct h.ct, A0a h'.sz h.sz, fun q h1 h2 h3 => ?_⟩
 . rcases h'.cl v hv with h1 | h1
   . rcases h.cl v h1 with h2 | h2
     . exact .inl h2
     . exact .inr fun w hw => h'.up w (h2 w hw)
   . exact .inr h1
 . rw [h'.od v, h.od v]
   constructor
   . rintro ((h1 | ⟨h1, h2⟩) | ⟨h1, h2⟩)
     . exact .inl h1
     . exact .inr ⟨h'.up v h1, h2⟩
     . exact .inr ⟨h1, fun h3 => h2 (h.up v h3)⟩
   . rintro (h1 | ⟨h1, h2⟩)
     . exact .inl (.inl h1)
     . by_cases h3 : isM T.l v
       . exact .inl (.inr ⟨h3, h2⟩)
       . exact .inr ⟨h1, h3⟩
 . obtain ⟨g1, g2⟩ := h.kp q h1 h2 h3
   exact h'.kp q (Nat.lt_of_le_of_lt h.ct h1) g2 g1
theorem a5w {k : FM.Loc} (h : k ≠ l) : upd H l o k = H k := by simp [upd, h]
theorem c5c : upd H l o l = some o := by simp [upd]
theorem c0y {on : Option Nat} {k : FM.Loc} (h : ∀ q, on = some q -> k ≠ [1, 100 + q, 33]) : d2x on H k = H k := by
 cases on with
 | none => rfl
 | some q => exact a5w (h q rfl)
theorem c3s {nb : Nat} (hl : S.l.length = nb) {b : Int} (h0 : 0 <= b) (h1 : b < (nb : Int)) (hm : ¬ isM S.l b) : (mk1 S.l b).count false + 1 = S.l.count false := e1f h0 ya fun h => hm ⟨h0, h⟩
theorem f0w (h : DSok c S) {b : Int} (h0 : 0 <= b) (h1 : b < ((blks c).length : Int)) (hm : ¬ isM S.l b) : DSok c (dsA S b) := by
 have hc := c3s h.len h0 h1 hm
 have L : ∀ k : FM.Loc, k ≠ [1, 14] -> (dsA S b).H k = S.H k := fun k hk => a5w hk
 have hl : (dsA S b).l.length = (blks c).length := by rw [show (dsA S b).l = mk1 S.l b from rfl, b3l]; exact h.len
 have h14 : (dsA S b).H [1, 14] = some (.cells 4 1 (a0k (dsA S b).l)) := by
  show upd S.H [1, 14] (.cells 4 1 (a0k (mk1 S.l b))) [1, 14] = _
  exact c5c
 refine ⟨hl, (L [1, 3] yb).trans h.h3, (L [1, 4] yb).trans h.h4, h14, (L [1, 6] yb).trans h.h6, (L [1, 5] yb).trans h.h5, h.hn, fun k hk => ?_, fun k hk r => ?_, ?_⟩
 . obtain ⟨g1, g2⟩ := h.ho k hk
   refine ⟨(L _ yd).trans g1, ?_⟩
   show (mk1 S.l b).count false < k
   omega
 . have hk' : k <= (mk1 S.l b).count false := hk
   refine (L _ ?_).trans (h.fr k ya r)
   intro e
   simp only [A1q] at e
   omega
 . have := h.sz
   show S.od.length + (mk1 S.l b).count false <= _
   omega
theorem g3s (h : DSok c T) {b : Int} {u : Nat} (hu : T.l.count false < u) (hf : ∀ r, T.H (1 :: (100 + u) :: r) = none) (hon : T.on ≠ some u) (hz : T.od.length + 1 + T.l.count false <= (blks c).length) : DSok c (dsZ u T b) := by
 have low : ∀ k : FM.Loc, k.length = 2 -> k ≠ [1, 5] -> (dsZ u T b).H k = T.H k := fun k hk h5 => by
  show upd (upd (d2x T.on (upd T.H [1, 100 + u, 32] _)) [1, 100 + u, 33] _) [1, 5] _ k = _
  rw [a5w h5, a5w (by intro e; rw [e] at hk; simp at hk), c0y (fun q _ e => by rw [e] at hk; simp at hk), a5w (by intro e; rw [e] at hk; simp at hk)]
 refine ⟨h.len, (low [1, 3] rfl yb).trans h.h3, (low [1, 4] rfl yb).trans h.h4, (low [1, 14] rfl yb).trans h.h14, (low [1, 6] rfl yb).trans h.h6, ?_, fun e => (by cases e), fun k hk => ?_, fun k hk r => ?_, ?_⟩
 . simp only [dsZ, onV, A0b, A1x]
   exact c5c
 . have : u = k := A5o hk
   subst this
   refine ⟨?_, hu⟩
   simp only [dsZ]
   rw [a5w yd, c5c]
 . have hk' : k <= T.l.count false := hk
   have hku : k ≠ u := by omega
   show upd (upd (d2x T.on (upd T.H [1, 100 + u, 32] _)) [1, 100 + u, 33] _) [1, 5] _ (1 :: (100 + k) :: r) = none
   rw [a5w z1j, a5w z1j, c0y (fun q hq e => by
    simp only [A1q] at e
    have := (h.ho q hq).2
    omega), a5w z1j]
   exact h.fr k hk' r
 . show (T.od ++ [b]).length + T.l.count false <= _
   rw [A0b]
   simpa using hz
theorem did {c : List Ins} (hc : CodeOk c) : ∀ (m : Nat) (S : DS) (b : Int), DSok c S -> S.l.count false <= m -> 0 <= b -> b < ((blks c).length : Int) -> ¬ isM S.l b -> Did c b S (b4q c m S b)
 | 0, S, b, h, hm, h0, h1, hb => by
   have := c3s h.len h0 h1 hb
   omega
 | m + 1, S, b, h, hm, h0, h1, hb => by
   have hcn := c3s h.len h0 h1 hb
   have hA := f0w h h0 h1 hb
   have hcA : (dsA S b).l.count false + 1 = S.l.count false := hcn
   have hbA : ∀ v, isM (dsA S b).l v ↔ isM S.l v \/ v = b := fun v => c0z h0 (by have := h.len; omega)
   have kids : ∀ k, k <= (nxN c b.toNat).length -> Mid c (dsA S b) (kidK c m (dsA S b) ((nxN c b.toNat).take k)) /\ (∀ j (hj : j < (nxN c b.toNat).length), j < k -> isM (kidK c m (dsA S b) ((nxN c b.toNat).take k)).l (nxN c b.toNat)[j]) /\
    (RB c b.toNat -> (∀ v, isM (dsA S b).l v -> RB c v.toNat) -> ∀ v, isM (kidK c m (dsA S b) ((nxN c b.toNat).take k)).l v -> RB c v.toNat) := fun k => by
    induction k with
    | zero => exact fun _ => ⟨Mid.refl hA, fun j _ h => by omega, fun _ h => h⟩
    | succ k ih =>
      intro hk
      obtain ⟨i1, i2, i3⟩ := ih ya
      have hv := c3l hc (A5p (show k < (nxN c b.toNat).length by omega))
      rw [d8h c m _ (show k < (nxN c b.toNat).length by omega)]
      split
      . rename_i hM
        refine ⟨i1, fun j hj hjk => ?_, i3⟩
        by_cases e : j = k
        . subst e; exact ⟨hv.1, hM⟩
        . exact i2 j hj ya
      . rename_i hM
        have hD := did hc m _ _ i1.ok (by have := i1.ct; omega) hv.1 hv.2 fun h => hM h.2
        refine ⟨i1.trans hD.toMid, fun j hj hjk => ?_, fun r1 r2 => hD.rc (RB.step r1 (A5p _)) (i3 r1 r2)⟩
        by_cases e : j = k
        . subst e; exact hD.mb
        . exact hD.up _ (i2 j hj ya)
   obtain ⟨K1, K2, K3⟩ := kids (nxN c b.toNat).length (A5s _)
   rw [A0c] at K1 K2 K3
   rw [d5i]
   generalize kidK c m (dsA S b) (nxN c b.toNat) = T at K1 K2 K3
   have onA : ∀ q, S.on = some q -> S.l.count false < q := fun q hq => (h.ho q hq).2
   have hfu : ∀ r, (dsA S b).H (1 :: (100 + S.l.count false) :: r) = none := fun r => (a5w z1j).trans (h.fr _ (A5s _) r)
   obtain ⟨u1, u2⟩ := K1.kp (S.l.count false) ya (fun e => by have := onA _ e; omega) hfu
   have hct := K1.ct
   have hsz := K1.sz
   have hsz0 : (dsA S b).od.length = S.od.length := rfl
   have hz := h.sz
   have hbT : isM T.l b := K1.up b ((hbA b).2 (.inr rfl))
   refine { ok := g3s K1.ok ya u1 u2 ya, up := fun v hv => K1.up v ((hbA v).2 (.inl hv)), cl := fun v hv => ?_, od := fun v => ?_, ct := ?_, sz := ?_, kp := fun q h1 h2 h3 => ?_, mb := hbT, rc := fun r1 r2 => K3 r1 fun v hv => ?_ }
   . rcases K1.cl v hv with h2 | h2
     . rcases (hbA v).1 h2 with h3 | h3
       . exact .inl h3
       . subst h3
         right
         intro w hw
         obtain ⟨j, hj, rfl⟩ := List.mem_iff_getElem.1 hw
         exact K2 j hj hj
     . exact .inr h2
   . show v ∈ T.od ++ [b] ↔ _
     rw [A0o, A0d, K1.od v, hbA v]
     show ((v ∈ S.od \/ _) \/ _) ↔ _
     constructor
     . rintro ((h2 | ⟨h2, h3⟩) | h2)
       . exact .inl h2
       . exact .inr ⟨h2, fun h4 => h3 (.inl h4)⟩
       . subst h2; exact .inr ⟨hbT, hb⟩
     . rintro (h2 | ⟨h2, h3⟩)
       . exact .inl (.inl h2)
       . by_cases e : v = b
         . exact .inr e
         . exact .inl (.inr ⟨h2, fun h4 => h4.elim h3 e⟩)
   . show T.l.count false <= _
     omega
   . show (T.od ++ [b]).length + T.l.count false <= _
     rw [A0b, A1x]; omega
   . have hq : (dsA S b).H = upd S.H [1, 14] (.cells 4 1 (a0k (mk1 S.l b))) := rfl
     obtain ⟨g1, g2⟩ := K1.kp q ya h2 fun r => (a5w z1j).trans (h3 r)
     refine ⟨fun r => ?_, fun e => ?_⟩
     . show upd (upd (d2x T.on (upd T.H _ _)) _ _) _ _ _ = none
       rw [a5w z1j, a5w z1j, c0y (fun q' hq' e => by
        simp only [A1q] at e
        have : q = q' := by omega
        subst this; exact g2 hq'), a5w z1j]
       exact g1 r
     . have : S.l.count false = q := A5o e
       omega
   . rcases (hbA v).1 hv with h2 | h2
     . exact r2 v h2
     . subst h2; exact r1
theorem f6p (hc : CodeOk c) (h : Did c 0 S T) (hS : ∀ v, ¬ isM S.l v) (ho : S.od = []) : e8f c T.od.reverse := fun o => by
 rw [List.mem_reverse, h.od o, ho]
 constructor
 . rintro (h1 | ⟨h1, _⟩)
   . cases h1
   . exact ⟨h1.1, h.rc .zero (fun v hv => absurd hv (hS v)) o h1⟩
 . rintro ⟨h1, h2⟩
   right
   refine ⟨?_, hS o⟩
   have key : ∀ j, RB c j -> isM T.l (j : Int) := fun j hj => by
    induction hj with
    | zero => exact h.mb
    | @step j v _ hv ih =>
      have := ((h.cl _ ih).resolve_left (hS _)) v (by simpa using hv)
      have e : ((v.toNat : Nat) : Int) = v := by have := c3l hc hv; omega
      rw [e]; exact this
   have := key _ h2
   have e : ((o.toNat : Nat) : Int) = o := by omega
   rwa [e] at this
theorem lkcJ (k : Nat) (v : FV) (r : Asg) (t : Nat) : lk ((k, v) :: r) t = if k = t then v else lk r t := rfl
theorem g7u {tm : Asg} (tm1 : Asg) (h : ∀ p ∈ tm1, lk tm p.1 = p.2) (t : Nat) : lk tm1 t = .undef \/ lk tm1 t = lk tm t := by
 induction tm1 with
 | nil => exact .inl rfl
 | cons p r ih =>
   obtain ⟨k, v⟩ := p
   rw [lkcJ]
   split
   . rename_i e
     subst e
     exact .inr (h (k, v) A3r).symm
   . exact ih fun p hp => h p (A2t _ hp)
theorem e9y {vs1 vs : List FV} {tm1 tm : Asg} {H1 : Heap} {ix1 ix : List Nat} (hv : vs1.length = vs.length) (hg : ∀ p ∈ vs1.zip vs, p.1 = .undef \/ p.1 = p.2) (ht : ∀ p ∈ tm1, lk tm p.1 = p.2) (hH : HLe H1 H) : Wk (Fs.mk vs1 tm1 H1 ix1) ⟨vs, tm, H, ix⟩ := by
 have h1 : (Fs.mk vs1 tm1 H1 ix).le ⟨vs, tm, H, ix⟩ := by
  refine ⟨hv, fun t => ?_, hH⟩
  unfold Fs.get
  simp only
  rw [<- hv]
  split
  . rename_i ht
    have h2 : t < vs.length := by omega
    rw [A5m, A5m, A5n ht, A5n h2]
    have hz : (vs1.zip vs)[t]? = some (vs1[t], vs[t]) := by
     rw [List.getElem?_zip_eq_some]
     exact ⟨A5n ht, A5n h2⟩
    simpa using hg _ (A1b hz)
  . exact g7u tm1 ht t
 exact (g2j _ ix1).trans h1.wk
theorem d8g {c : List Ins} (hc : CodeOk c) {m : Nat} {S : DS} (h : DSok c S) (hm : S.l.count false <= m) (b : Nat) : ∀ k, k <= (nxN c b).length -> Mid c S (kidK c m S ((nxN c b).take k))
 | 0, _ => Mid.refl h
 | k + 1, hk => by
   have ih := d8g hc h hm b k ya
   have hv := c3l hc (A5p (show k < (nxN c b).length by omega))
   rw [d8h c m _ (show k < (nxN c b).length by omega)]
   split
   . exact ih
   . rename_i hM
     exact ih.trans (did hc m _ _ ih.ok (by have := ih.ct; omega) hv.1 hv.2 fun h => hM h.2).toMid
theorem f7b {B : List (Nat × Nat)} (h : j < B.length) (h' : j < (bxV c B).length) : (bxV c B)[j] = bRow B[j] (.list 1 (ints (nxB c B[j]))) := by simp [bxV]
theorem f4o (c : List Ins) (hc : CodeOk c) (j : Nat) : (nxN c j).length <= 1000 := by
 unfold nxN
 split
 . rename_i b _
   have h1 : ∀ (s a : List Int), (s.foldl a0r a).length <= a.length + s.length := fun s => by
    induction s with
    | nil => intro a; simp
    | cons x s ih =>
      intro a
      have := ih (a0r a x)
      have := b4w a x
      simp only [A2i, A1a]
      omega
   have h2 := h1 ((nx c (hd c (b.2 - 1))).map fun v => (nmF c v.toNat : Int)) []
   have h3 := b6s c (hd c (b.2 - 1))
   unfold nxB
   simp at h2
   omega
 . simp
theorem b3w (c : List Ins) (hc : CodeOk c) : (blks c).length <= 1000 := by
 have := c9l c c.length
 have := hc.n1000
 unfold blks
 unfold nmF at *
 omega
end Go.Je
namespace Go.Je
open Go Go.FM Go.Gv Go.RowKit Go.Proofs Go.Shelf Go.Sort
def rvR : Ren := ⟨fun n => match n with | 112 => 136 | _ => 0, fun n => match n with | 0 => 0 | 3 => 3 | 4 => 4 | 28 => 36 | _ => 0, fun _ => 0⟩
theorem rvL : Lays.n112 Tp rvR where
 mixed := by kernel_rfl
 f112 := by kernel_rfl
 t0 := by kernel_rfl
 a0 := fun w => by kernel_rfl
 z0 := fun w => by kernel_rfl
 v0 := fun w => by kernel_rfl
 t3 := by kernel_rfl
 a3 := fun w => by kernel_rfl
 z3 := fun w => by kernel_rfl
 v3 := fun w => by kernel_rfl
 t4 := by kernel_rfl
 a4 := fun w => by kernel_rfl
 z4 := fun w => by kernel_rfl
 v4 := fun w => by kernel_rfl
 t28 := by kernel_rfl
 a28 := fun w => by kernel_rfl
 z28 := fun w => by kernel_rfl
 v28 := fun w => by kernel_rfl
theorem d4v {H : Heap} {l : FM.Loc} {T : TypeId} {s : List Int} {n : Nat} (hn : s.length = n) (hl : H l = some (.cells T 1 (ints s))) (hs : s ≠ []) (hz : n < 4611686018427387904) : FC Tp Gl 136 [.sl l 1 0 n] H (.tup []) (upd H l (.cells T 1 (ints s.reverse))) := by
 subst hn
 refine c7k (R := fun _ _ => .tuple #[]) hl hs yd (fun w blk cap h1 h2 h3 => ?_) fun _ _ _ _ _ _ => .tup [] [] .nil
 have h : Calls Tp 136 #[.slice (some ⟨blk, 0, none⟩) s.length cap] w _ := Any.slices_Reverse_int rvL blk 0 cap s w h1 (A0a (A2e hz) yb)
 refine h.mono ?_
 rintro e w' ⟨h4, q, h5⟩
 exact ⟨h4, q, #[], by rw [h5, grow_empty]⟩
end Go.Je
