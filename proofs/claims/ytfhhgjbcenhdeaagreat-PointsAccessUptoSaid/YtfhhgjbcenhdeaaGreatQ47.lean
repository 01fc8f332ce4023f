/- Parts of the proof. -/
import Derived.Test.YtfhhgjbcenhdeaaGreatQ44
set_option linter.unusedSimpArgs false
set_option linter.unusedVariables false
namespace Go.Ge
open Go Go.FM Go.Gv Go.Proofs
set_option maxRecDepth 100000
set_option maxHeartbeats 40000000
def addS (ks : List Int) (o : Int) : List Int := if o ∈ ks then ks else ks ++ [o]
theorem c7b {ks : List Int} {o v : Int} : v ∈ addS ks o ↔ v ∈ ks \/ v = o := by
 unfold addS
 split
 . exact ⟨.inl, fun h => by rcases h with h | h; exact h; subst h; assumption⟩
 . simp
theorem d8v {n : Nat} {ks : List Int} {o : Int} (h : okA n ks) (ho : 0 <= o /\ o < (n : Int)) : okA n (addS ks o) := by
 refine ⟨?_, fun x hx => ?_⟩
 . unfold addS
   split
   . exact h.1
   . rename_i hn
     refine List.nodup_append.2 ⟨h.1, by simp, fun a ha b hb => ?_⟩
     simp at hb; subst hb
     intro e; subst e; exact hn ha
 . rcases c7b.1 hx with hx | hx
   . exact h.2 x hx
   . subst hx; exact ho
theorem d8t {H : Heap} {l : FM.Loc} {ks : List Int} {o : Int} (h : H l = some (mapO ks)) : b0g Tryz.prog H 54 (.mp l) (.int .i64 o) (.agg []) = some ([(l, mapO (addS ks o))], .undef) := by
 unfold addS
 split
 . rename_i ho; exact e5k h ho
 . rename_i ho; exact c4l h ho
def insS (ks l : List Int) : List Int := l.foldl addS ks
theorem e2s (ks : List Int) : insS ks [] = ks := rfl
theorem f1j (ks : List Int) {l : List Int} {i : Nat} (h : i < l.length) : insS ks (l.take (i + 1)) = addS (insS ks (l.take i)) l[i] := by
 unfold insS
 rw [List.take_succ_eq_append_getElem h, List.foldl_append]
 rfl
theorem c7a {v : Int} : ∀ (l ks : List Int), v ∈ insS ks l ↔ v ∈ ks \/ v ∈ l
 | [], ks => by simp [insS]
 | o :: l, ks => by
   have := c7a (v := v) l (addS ks o)
   show v ∈ insS (addS ks o) l ↔ _
   rw [this, c7b, List.mem_cons, or_assoc]
theorem c6u {n : Nat} : ∀ (l ks : List Int), okA n ks -> (∀ o ∈ l, 0 <= o /\ o < (n : Int)) -> okA n (insS ks l)
 | [], ks, h, _ => h
 | o :: l, ks, h, hl => c6u l (addS ks o) (d8v h (hl o (by simp))) fun v hv => hl v (by simp [hv])
def b4t (x : Pts) (f : Nat) (code : List Ins) (pc k : Nat) : List Int := (List.range k).foldl (fun ks i => insS ks (rg x f (aAt code (pc + 1 + i)))) []
theorem c2y (x : Pts) (f : Nat) (code : List Ins) (pc : Nat) : b4t x f code pc 0 = [] := rfl
theorem d3t (x : Pts) (f : Nat) (code : List Ins) (pc k : Nat) : b4t x f code pc (k + 1) = insS (b4t x f code pc k) (rg x f (aAt code (pc + 1 + k))) := by
 unfold b4t
 rw [List.range_succ, List.foldl_append]
 rfl
theorem c4o {p : Pg} {x : Pts} (hx : Gv.Form p x) (f : Nat) (code : List Ins) (pc : Nat) : ∀ k, okA (a0i p).length (b4t x f code pc k)
 | 0 => ⟨by simp [c2y], by simp [c2y]⟩
 | k + 1 => by rw [d3t]; exact c6u _ _ (c4o hx f code pc k) (hx.reg f _).2
theorem c7h {x : Pts} {f : Nat} {code : List Ins} {pc : Nat} {v : Int} : ∀ k, v ∈ b4t x f code pc k ↔ v ∈ selR x f code pc k
 | 0 => by simp [c2y, c6l]
 | k + 1 => by rw [d3t, d1z, c7a, a5y, c7h k]
theorem e4x {p : Pg} {x : Pts} (hx : Gv.Form p x) (f : Nat) (code : List Ins) (pc k : Nat) : Gv.srt (b4t x f code pc k) = selR x f code pc k :=
 c0y (Gv.d1m (c4o hx f code pc k).1) (d9r hx f code pc k) fun o => by rw [Gv.b4r, c7h]
theorem acS {p : Pg} (hb : PgB p) {x : Pts} (hx : PtB 2000000 x) {f pc : Nat} (hf : f < p.funcs.length) (hcd : pc < p.funcs[f].code.length) (hs : a2y p x = true) (q : ((p.funcs[f]).code[pc]).op = 50) : PC Tryz.prog Gl 18 [.agg [.list 4 (fns p.funcs), .list 2 (gbs p.globals), .list 1 (lays p.layouts), .int .i64 p.main], .agg [.list 2 (sits x.sites), .list 1 (lls x.regs), .list 1 (lays x.cells)], .agg [.int .i64 (f : Int), .int .i64 (pc : Int)]] (.list 1 (ints (accP p x ((f : Int), (pc : Int))))) := by
 have i1 : ¬ (f : Int) < 0 := by omega
 have i2 : ¬ (pc : Int) < 0 := by omega
 have i3 : ¬ p.funcs.length <= f := by omega
 have i4 : ¬ p.funcs[f].code.length <= pc := by omega
 have hF := a5o hs
 have hv := a4b hs
 have hp := vOk hv
 have hn64 := hp.nf
 have hfx : f < x.regs.length := by rw [hF.rn]; exact hf
 have hI := hp.ins _ (List.getElem_mem hf) _ (List.getElem_mem hcd)
 have hIa := hI.a
 have hIb := hI.b
 have hin := b0w hs hf hcd
 generalize hX : (p.funcs[f]'hf).code[pc]'hcd = X at hin hI hIa hIb q
 clear hI
 have hsv := a2f hp
 have hnc : (p.funcs[f]'hf).code.length <= 1000 := (b1v (hp.head _ (List.getElem_mem hf))).2.2
 obtain ⟨⟨hb0, hb8⟩, hsel⟩ := e2d hv hf hcd (by rw [hX]; exact q)
 rw [hX] at hb0 hb8 hsel
 obtain ⟨nb, hnb⟩ : ∃ nb : Nat, X.b = (nb : Int) := ⟨X.b.toNat, by omega⟩
 have hres : accP p x ((f : Int), (pc : Int)) = selR x f (p.funcs[f]'hf).code pc nb := by
  rw [hin]
  simp [accI, accA, accB, q, hnb]
 clear hin
 have hok := c4o hF f (p.funcs[f]'hf).code pc nb
 have hsr := e4x hF f (p.funcs[f]'hf).code pc nb
 have hle : pc + 1 + nb <= (p.funcs[f]'hf).code.length := by
  cases nb with
  | zero => omega
  | succ m => obtain ⟨h, _⟩ := hsel m (by omega); omega
 have hsel : ∀ k : Nat, k < nb -> ∃ h : pc + 1 + k < (p.funcs[f]'hf).code.length, isR (p.funcs[f]'hf) (((p.funcs[f]'hf).code[pc + 1 + k]'h).a) := fun k hk => hsel k (by omega)
 have z1 : (0 : Int) <= (pc : Int) + 1 := by omega
 have z2 : (0 : Int) <= (pc : Int) + 1 + (nb : Int) := by omega
 have z3 : ((pc : Int) + 1 + (nb : Int)).toNat = pc + 1 + nb := by omega
 have hmin : min nb ((p.funcs[f]'hf).code.length - (pc + 1)) = nb := by omega
 have hnl : nlss (List.take nb (List.drop (pc + 1) (inss (p.funcs[f]'hf).code))) = true := by
  rw [show List.take nb (List.drop (pc + 1) (inss (p.funcs[f]'hf).code)) = inss (((p.funcs[f]'hf).code.drop (pc + 1)).take nb) by simp [inss]]
  exact a0c _
 have z4 : pc + 1 <= pc + 1 + nb := by omega
 have w1 : IntKind.wrap .i64 ((pc : Int) + 1) = (pc : Int) + 1 := by rw [IntKind.wrap_i64]; omega
 have w2 : IntKind.wrap .i64 ((pc : Int) + 1 + (nb : Int)) = (pc : Int) + 1 + (nb : Int) := by rw [IntKind.wrap_i64]; omega
 refine a3d (res := [.tmp 6]) 15 139 [69, 117, 116, 115, 127, 126, 125] (fun d ix => 0 :: d :: ix) (fn := Tryz.f18) (by kernel_rfl) (by rfl) (by rfl) (by rfl) (by simp) (by decide) ?_
 repeat' first
  | ((with_reducible refine a1u ?_); refine a2n (σ := {k : Nat // k <= nb}) (fun y => [(12, .undef), (14, .undef)]) [116, 115] (fun y => [(117, .int .i64 (y.1 : Int))]) [[0, 12]] (fun y => [([0, 104], .map (ents (b4t x f (p.funcs[f]'hf).code pc y.1)) (b4t x f (p.funcs[f]'hf).code pc y.1).length)]) (fun y => noH) (fun y => nb - y.1) ⟨0, by simp⟩ (gk3 (j := 0) [] (Bs.pc _) ?_ ?_ ?_ ?_ ?_ ?_ ?_) ?_; (iterate 7 (focus (first | rfl | (simp [LPXB, *, SIMB, hdN, injB, b3u, a4q, a4s, a2d, a1q, hdN, a1c, a0v, a1y, a3l, mapO, c2y, e2s, a6f, List.length_nil, List.take_zero]; done)))); rintro ⟨k, hk⟩; simp only [lpS, LPXB]; (try dsimp only at hk); rcases a1t hk with hlt | ⟨hlt, he⟩; rotate_left; subst k; rotate_left; have wk := wli hlt (by omega); obtain ⟨hkc, hkr⟩ := hsel k (by omega); obtain ⟨na, hna, hf', ha', hrg⟩ := b8t hF hf hkr; have hna0 : ¬ (na : Int) < 0 := (by omega); have haa : aAt (p.funcs[f]'hf).code (pc + 1 + k) = (na : Int) := (by rw [e3s hkc, hna]); have hat : (List.take nb (List.drop (pc + 1) (inss (p.funcs[f]'hf).code)))[k]? = some (Ins.row (((p.funcs[f]'hf).code)[pc + 1 + k]'hkc)) := (by simp [inss, hlt, hkc]); have hks := d3t x f (p.funcs[f]'hf).code pc k; rw [haa, <- hna, hrg] at hks; generalize hrow : (x.regs[f]'hf')[na]'ha' = row at hks hrg; have hrl : row.length <= 2000000 := (by rw [<- hrow]; exact hx.rs _ (List.getElem_mem hf') _ (List.getElem_mem ha')))
  | ((with_reducible refine a1u ?_); refine a2n (σ := {i : Nat // i <= row.length}) (fun y => [(14, .undef)]) [126, 125, 117, 116, 115] (fun y => [(127, .int .i64 (y.1 : Int))]) [] (fun y => [([0, 104], .map (ents (insS (b4t x f (p.funcs[f]'hf).code pc k) (row.take y.1))) (insS (b4t x f (p.funcs[f]'hf).code pc k) (row.take y.1)).length)]) (fun y => noH) (fun y => row.length - y.1) ⟨0, by simp⟩ (gk3 (j := 0) [] (Bs.pc _) ?_ ?_ ?_ ?_ ?_ ?_ ?_) ?_; (iterate 7 (focus (first | rfl | (simp [LPXB, *, SIMB, hdN, injB, b3u, a4q, a4s, a2d, a1q, hdN, a1c, a0v, a1y, a3l, mapO, c2y, e2s, a6f, List.length_nil, List.take_zero]; done)))); rintro ⟨i, hi⟩; simp only [lpS, LPXB]; (try dsimp only at hi); rcases a1t hi with hlt | ⟨hlt, rfl⟩; have wi := wli hlt (by omega); have hpo := (fun (H : Heap) (h : H [0, 104] = some (mapO (insS (b4t x f (p.funcs[f]'hf).code pc k) (row.take i)))) => d8t (o := row[i]'hlt) h); rw [<- f1j _ hlt] at hpo)
  | ((with_reducible refine cgH ?_); refine b8f (c6b (nm := [0, 95]) ?_) ?_; (focus (simp [a2d, a2r, a2o, a3l]; done)))
  | ((with_reducible refine cgH ?_); refine b8f (b9r (l := [0, 95]) (k := [0, 104]) (T := 54) (ks := b4t x f (p.funcs[f]'hf).code pc nb) ?_ ?_ hok.1 (fun x hx => by have := hok.2 x hx; omega) (by have := b1m hok; omega)) ?_; (focus (simp [a2d, a2r, a2o, a3l]; done)); (focus (simp [a2d, a2r, a2o, a3l, mapO]; done)))
  | ((with_reducible refine a1p ?_); refine a2a (⟨i + 1, by omega⟩) (gk3 (j := 0) [] (Bs.pc _) ?_ ?_ ?_ ?_ ?_ ?_ ?_) ?_; (iterate 7 (focus (first | rfl | (simp [LPXB, *, SIMB, hdN, injB, b3u, a4q, a4s, a2d, a1q, hdN, a1c, a0v, a1y, a3l, mapO]; done)))); (focus (dsimp only; omega)))
  | ((with_reducible refine a1p ?_); refine a2a (⟨k + 1, by omega⟩) (gk3 (j := 0) [] (Bs.pc _) ?_ ?_ ?_ ?_ ?_ ?_ ?_) ?_; (iterate 7 (focus (first | rfl | (simp [LPXB, *, SIMB, hdN, injB, b3u, a4q, a4s, a2d, a1q, hdN, a1c, a0v, a1y, a3l, mapO, hks, List.take_length]; done)))); (focus (dsimp only; omega)))
  | (rw [hpo _ (by simp [mapO, HPXB])])
  | with_reducible first | refine a0u (id := 1) 35 a0m (by kernel_rfl) fun K hK => ?_ | refine stp ?_
  | (with_reducible refine stpK ?_; intro K hK)
  | (with_reducible refine stpC ?_; intro T E hT hE)
  | (with_reducible refine stp2 ?_ ?_ <;> intro h)
  | with_reducible first | refine a0p rfl ?_ | refine a1h (a5d hb hx) (by simp [nls, nl, *, NLXB]) ?_ | refine hpc (a5d hb hx) (by simp [nls, nl, *, NLXB]) ?_ | refine a1r rfl (Nat.le_of_ble_eq_true rfl) a0r ?_ | refine a1r rfl (Nat.le_of_ble_eq_true rfl) (a0q (by simp [HPXB, a3l, ext, upd, *])) ?_ | refine a1s (by decide) (by kernel_rfl) ?_ | refine a0x (by decide) ?_
  | (with_reducible refine Kont.go hK ?_; clear hK K)
  | ((with_reducible first | refine KT.go hT ?_ | refine KT.go hE ?_); clear hT hE T E)
  | simp [*, -List.all_flatten, -List.all_eq_true, DEFM, LENB, asR, a0w, a2t, List.take_length, b3u, a4q, a4s, a2d, a1q, hdN, a1c, a0v, a1y, a3l, rmvs, rmv, a3g]
end Go.Ge
