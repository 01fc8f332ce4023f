/- Parts of the proof. -/
import Derived.Test.YtfhhgjbcenhdeaaR21
set_option linter.unusedSimpArgs false
set_option linter.unusedVariables false
namespace Go.He
open Go Go.FM Go.Gv Go.Proofs
set_option maxRecDepth 100000
set_option maxHeartbeats 40000000
theorem d0u {x : Pts} (hx : PtB 2000000 x) {B : Heap} (hB : BsC B) : FC Try.prog Gl 9 [.agg [.list 2 (sits x.sites), .list 1 (lls x.regs), .list 1 (lays x.cells)]] (HP [] B noH) (.agg [.list 2 (sits x.sites), .sl [91] 1 0 x.regs.length, .sl [93] 1 0 x.cells.length]) (HP [] B (PF x)) := by
 have hxs := hx.s
 have hq1 := szn (n := x.sites.length) (k := 16) (by omega) (by decide)
 have hq2 : x.sites.length <= 4611686018427387904 := by omega
 refine a3s (res := [.cell 2 30]) 8 69 [] (fun d ix => 2 :: d :: ix) (fn := Try.f9) (by kernel_rfl) (by rfl) (by rfl) (by rfl) (by simp) (by decide) ?_
 repeat' first
  | ((with_reducible refine a1o ?_); refine a2h (σ := {f : Nat // f <= x.regs.length}) (fun y => [(4, .int .i64 (y.1 : Int)), (5, .undef), (6, .undef)]) [] (fun y => []) [[2, 11]] (fun y => [([2, 3], .cells 30 3 [[.list 2 (sits x.sites), .sl [2, 1000] 1 0 y.1, .nils]]), ([2, 1000], .cells 24 1 (rowN (x.regs.take y.1)))]) (fun y => PR (x.regs.take y.1)) (fun y => x.regs.length - y.1) ⟨0, by simp⟩ (Gk.trans (gk3i (j := 2) [([2, 1000], none)] (hB.bs _) ?_ ?_ ?_ ?_ ?_ ?_ ?_) (e1q (j := 2) [2, 11] 50 2 (sits x.sites) hB.bs0 hB.live0 (by rfl) (by simp [*, SIMB, a7b, a8e, hB.fr, a0l, a2j, a2i, a5y, a1a, a5u, a5c, a5d, a6j]) (by simp [*, SIMB, a7b, a8e, hB.fr, a0l, a2j, a2i, a5y, a1a, a5u, a5c, a5d, a6j]))) ?_; (iterate 7 (focus (first | rfl | (simp [LPXB, *, SIMB, hdN, injB, fz, fzs, fzss, fzO, fzT, fze, a4c, a7j, a6z, a7k, a6b, a7b, a8e, hB.fr, a0l, a2j, a2i, a5y, a1a, a5u, a5c, a5d, a6j, d7b, d5g]; done)))); rintro ⟨f, hf⟩; simp only [lpS, LPXB]; (try dsimp only at hf); rcases a1l hf with hlt | ⟨hlt, rfl⟩; have wi := wli hlt (Nat.le_trans hx.r (by decide)); have hil := Nat.le_of_lt hlt; have hrr := hx.rr _ (List.getElem_mem hlt); have hxr := hx.r; have hs4 := szn (n := f + 1) (k := 24) (by omega) (by decide); have hs5 : f + 1 <= 4611686018427387904 := (by omega))
  | ((with_reducible refine a1o ?_); refine a2h (σ := {r : Nat // r <= (x.regs[f]'hlt).length}) (fun y => [(5, .sl [2, 1001] 1 0 y.1), (6, .int .i64 (y.1 : Int))]) [] (fun y => []) [] (fun y => [([2, 1001], .cells 41 1 (lays ((x.regs[f]'hlt).take y.1)))]) (fun y => PR (x.regs.take f)) (fun y => (x.regs[f]'hlt).length - y.1) ⟨0, by simp⟩ (gk3i (j := 2) [] (hB.bs _) ?_ ?_ ?_ ?_ ?_ ?_ ?_) ?_; (iterate 7 (focus (first | rfl | (simp [LPXB, *, SIMB, hdN, injB, a7b, a8e, hB.fr, a0l, a2j, a2i, a5y, a1a, a5u, a5c, a5d, a6j]; done)))); rintro ⟨r, hr⟩; simp only [lpS, LPXB]; (try dsimp only at hr); rcases a1l hr with hlr | ⟨hlr, rfl⟩; have wr := wli hlr (Nat.le_trans hrr (by decide)); have hs0 := hx.rs _ (List.getElem_mem hlt) _ (List.getElem_mem hlr); have hy3 := szn (n := ((x.regs[f]'hlt)[r]'hlr).length) (k := 8) (by omega) (by decide); have hy4 : ((x.regs[f]'hlt)[r]'hlr).length <= 4611686018427387904 := (by omega); have hz := szn (n := r + 1) (k := 24) (by omega) (by decide); have hz2 : r + 1 <= 4611686018427387904 := (by omega); have hrl := Nat.le_of_lt hlr)
  | ((with_reducible refine a1o ?_); refine a2h (σ := {i : Nat // i <= x.cells.length}) (fun y => [(7, .int .i64 (y.1 : Int)), (5, .undef), (6, .undef), (4, .undef)]) [] (fun y => []) [[2, 1000], [2, 8], [2, 1001]] (fun y => [([2, 3], .cells 30 3 [[.list 2 (sits x.sites), .sl [91] 1 0 x.regs.length, .sl [93] 1 0 y.1]]), ([91], .cells 24 1 (rowN x.regs)), ([93], .cells 41 1 (lays (x.cells.take y.1)))]) (fun y => PR x.regs) (fun y => x.cells.length - y.1) ⟨0, by simp⟩ (gk5S [([91], some [2, 1000]), ([93], none)] (by simp) (hB.bs _).clo (hB.bs _).lent ?_ ?_ ?_ ?_ ?_ ?_) ?_; (focus (simp [a7b, a8e, hB.fr, hB.f1, hB.f3, a3d, LPXB, *, SIMB, fz, fzs, fzss, fzO, fzT, fze, a4c, a7j, a6z, a7k, a6b]; done)); (focus (simp [a7b, a8e, hB.fr, hB.f1, hB.f3, a3d, LPXB, *, SIMB, fz, fzs, fzss, fzO, fzT, fze, a4c, a7j, a6z, a7k, a6b]; done)); (focus (simp [injB, bk, LPXB]; done)); (focus (simp [LPXB, *, SIMB, fz, fzs, fzss, fzO, fzT, fze, a4c, a7j, a6z, a7k, a6b, a7b, a8e, hB.fr, a0l, a2j, a2i, a5y, a1a, a5u, a5c, a5d, a6j, a1a, hB.f1, hB.f3]; done)); (focus (simp [LPXB, *, SIMB, fz, fzs, fzss, fzO, fzT, fze, a4c, a7j, a6z, a7k, a6b, a7b, a8e, hB.fr, a0l, a2j, a2i, a5y, a1a, a5u, a5c, a5d, a6j, a1a, hB.f1, hB.f3]; done)); (focus (simp [LPXB, *, SIMB, fz, fzs, fzss, fzO, fzT, fze, a4c, a7j, a6z, a7k, a6b, a7b, a8e, hB.fr, a0l, a2j, a2i, a5y, a1a, a5u, a5c, a5d, a6j, a1a, hB.f1, hB.f3]; done)); rintro ⟨i, hi⟩; simp only [lpS, LPXB]; (try dsimp only at hi); rcases a1l hi with hlc | ⟨hlc, rfl⟩; have wc := wli hlc (Nat.le_trans hx.c (by decide)); have hs0 := hx.cs _ (List.getElem_mem hlc); have hy3 := szn (n := (x.cells[i]'hlc).length) (k := 8) (by omega) (by decide); have hy4 : (x.cells[i]'hlc).length <= 4611686018427387904 := (by omega); have hxc := hx.c; have hz := szn (n := i + 1) (k := 24) (by omega) (by decide); have hz2 : i <= 4611686018427387903 := (by omega); have hrl := Nat.le_of_lt hlc; rotate_left; have hlx := List.take_length (l := x.cells); rotate_left)
  | ((with_reducible refine a1j ?_); refine a1w ⟨r + 1, by omega⟩ (Gk.trans (gk3i (j := 2) [] (hB.bs _) ?_ ?_ ?_ ?_ ?_ ?_ ?_) (e1q (j := 2) [2, 40] 3 1 (ints ((x.regs[f]'hlt)[r]'hlr)) (hB.bs _) (hB.live _) (by rfl) (by simp [*, SIMB, a7b, a8e, hB.fr, a0l, a2j, a2i, a5y, a1a, a5u, a5c, a5d, a6j]) (by simp [*, SIMB, a7b, a8e, hB.fr, a0l, a2j, a2i, a5y, a1a, a5u, a5c, a5d, a6j]))) ?_; (iterate 7 (focus (have e := b3s (x.regs[f]'hlt) hlr; first | rfl | (simp [LPXB, *, SIMB, hdN, injB, fz, fzs, fzss, fzO, fzT, fze, a4c, a7j, a6z, a7k, a6b, a7b, a8e, hB.fr, a0l, a2j, a2i, a5y, a1a, a5u, a5c, a5d, a6j]; done)))); (focus (dsimp only; omega)))
  | ((with_reducible refine a1j ?_); refine a1w ⟨f + 1, by omega⟩ (e5j f [2, 1001] [([2, 1000], some [2, 47])] (x.regs.take f) (x.regs[f]'hlt) hB rfl (by rw [List.length_take]; omega) (by rw [<- d0h hlt]) (by rfl) (by rfl) ?_ ?_ ?_ ?_) ?_; (focus (simp [injB, bk, LPXB]; done)); (focus (have e1 := b7a hlt; have e2 : ∀ g, g < f -> ¬ g = f := (fun g hg => by omega); have e3 : ∀ g, g < f -> g < x.regs.length := (fun g hg => by omega); simp [LPXB, *, SIMB, bk_n, bk_c, hil, a7b, c4v, hB.fr, a5u, a4q, a4s, b7b, b7k, a0l, a2i, a1a, List.length_take, Nat.min_eq_left, e1, e2, e3]; done)); (focus (have e1 := b7a hlt; have e2 : ∀ g, g < f -> ¬ g = f := (fun g hg => by omega); have e3 : ∀ g, g < f -> g < x.regs.length := (fun g hg => by omega); simp [LPXB, *, SIMB, bk_n, bk_c, hil, a7b, c4v, hB.fr, a5u, a4q, a4s, b7b, b7k, a0l, a2i, a1a, List.length_take, Nat.min_eq_left, e1, e2, e3]; done)); (focus (have e1 := b7a hlt; have e2 : ∀ g, g < f -> ¬ g = f := (fun g hg => by omega); have e3 : ∀ g, g < f -> g < x.regs.length := (fun g hg => by omega); simp [LPXB, *, SIMB, bk_n, bk_c, hil, a7b, c4v, hB.fr, a5u, a4q, a4s, b7b, b7k, a0l, a2i, a1a, List.length_take, Nat.min_eq_left, e1, e2, e3]; done)); (focus (dsimp only; omega)))
  | ((with_reducible refine a1j ?_); refine a1w ⟨i + 1, by omega⟩ (Gk.trans (gk5S [([93], some [2, 66])] rfl (hB.bs _).clo (hB.bs _).lent ?_ ?_ ?_ ?_ ?_ ?_) (f0x [2, 64] 3 1 (ints (x.cells[i]'hlc)) (hB.bs _).clo (hB.live _) (by simp [a7b, a8e, hB.fr, hB.f1, hB.f3, a3d, LPXB, *, SIMB]) (by simp [*, SIMB, a7b, a8e, hB.fr, a0l, a2j, a2i, a5y, a1a, a5u, a5c, a5d, a6j, a1a, hB.f1, hB.f3]) (by simp [*, SIMB, a7b, a8e, hB.fr, a0l, a2j, a2i, a5y, a1a, a5u, a5c, a5d, a6j, a1a, hB.f1, hB.f3]))) ?_; (focus (simp [a7b, a8e, hB.fr, hB.f1, hB.f3, a3d, LPXB, *, SIMB, fz, fzs, fzss, fzO, fzT, fze, a4c, a7j, a6z, a7k, a6b]; done)); (focus (simp [a7b, a8e, hB.fr, hB.f1, hB.f3, a3d, LPXB, *, SIMB, fz, fzs, fzss, fzO, fzT, fze, a4c, a7j, a6z, a7k, a6b]; done)); (focus (simp [injB, bk, LPXB]; done)); (focus (have e := b3s x.cells hlc; simp [LPXB, *, SIMB, fz, fzs, fzss, fzO, fzT, fze, a4c, a7j, a6z, a7k, a6b, a7b, a8e, hB.fr, a0l, a2j, a2i, a5y, a1a, a5u, a5c, a5d, a6j, a1a, hB.f1, hB.f3]; done)); (focus (have e := b3s x.cells hlc; simp [LPXB, *, SIMB, fz, fzs, fzss, fzO, fzT, fze, a4c, a7j, a6z, a7k, a6b, a7b, a8e, hB.fr, a0l, a2j, a2i, a5y, a1a, a5u, a5c, a5d, a6j, a1a, hB.f1, hB.f3]; done)); (focus (have e := b3s x.cells hlc; simp [LPXB, *, SIMB, fz, fzs, fzss, fzO, fzT, fze, a4c, a7j, a6z, a7k, a6b, a7b, a8e, hB.fr, a0l, a2j, a2i, a5y, a1a, a5u, a5c, a5d, a6j, a1a, hB.f1, hB.f3]; done)); (focus (dsimp only; omega)))
  | (with_reducible refine d4z (id := 14) [[93]] 12 a0k (by kernel_rfl) fun K hK => ?_)
  | (refine d5b (j := 9) (e := 41) (x := .tmp 57) (y := .tmp 65) (t := 24) (tx := 24) (Aj := upd noH [2, 65] (.cells 41 1 [[.sl [2, 64] 1 0 (x.cells[i]'hlc).length]])) [93] [2, 65] (.cells 41 1 (lays (x.cells.take i))) (.cells 41 1 [[.sl [2, 64] 1 0 (x.cells[i]'hlc).length]]) 1 (lays (x.cells.take i) ++ [[.sl [2, 64] 1 0 (x.cells[i]'hlc).length]]) (.sl [2, 66] 1 0 (i + 1)) (by decide) (by kernel_rfl) ?_ (by simp [a3b]) rfl (Nat.le_of_ble_eq_true rfl) ?_ (by kernel_rfl) ?_ ?_ ?_ (by decide) ?_ ?_ ?_ ?_; (focus (exact rfl)); (focus (first | rfl | simp)); (focus (first | rfl | simp [*, SIMB, rmvs, rmv, a3u])); (focus (first | rfl | simp [*, SIMB, rmvs, rmv, a3u])); (focus (first | rfl | simp [*, SIMB, rmvs, rmv, a3u])); (focus (first | rfl | simp [*, SIMB, rmvs, rmv, a3u])); (focus (first | rfl | simp [*, SIMB, rmvs, rmv, a3u])); (focus (simp [*, -List.all_flatten, -List.all_eq_true, DEFB, LENB, asR, rmvs, rmv, a3u, FV.cellV, a2z, c2w, c2s, c2t, List.take_take, Nat.min_self, a4r, List.take_length, List.length_take, Nat.min_eq_left, Nat.le_of_lt, a1a, a7b, a8e, a3a, a2j, a2i, a5y, a9p, a9u, a4e, hB.fr, hB.f1, hB.f2, hB.f3])))
  | (with_reducible refine d9p hB ?_ ?_ ?_)
  | with_reducible refine stp ?_
  | (with_reducible refine stpK ?_; intro K hK)
  | (with_reducible refine stpC ?_; intro T E hT hE)
  | (with_reducible refine stp2 ?_ ?_ <;> intro h)
  | with_reducible first | refine a0q rfl ?_ | refine a0t rfl (Nat.le_of_ble_eq_true rfl) a0s ?_ | refine a0t rfl (Nat.le_of_ble_eq_true rfl) (a0r (by simp [HPXB, a7b, a8e, hB.fr, ext, upd, *])) ?_ | refine d5a _ (by decide) (by kernel_rfl) rfl (by kernel_rfl) (by simp [a3b]) rfl (Nat.le_of_ble_eq_true rfl) ?_ | refine a1v (by decide) (by kernel_rfl) ?_ | refine a0x (by decide) ?_
  | (with_reducible refine Kont.go hK ?_; clear hK K)
  | ((with_reducible first | refine KT.go hT ?_ | refine KT.go hE ?_); clear hT hE T E)
  | simp [*, -List.all_flatten, -List.all_eq_true, DEFB, LENB, asR, rmvs, rmv, a3u, FV.cellV, a2z, c2w, c2s, c2t, List.take_take, Nat.min_self, a4r, List.take_length, List.length_take, Nat.min_eq_left, Nat.le_of_lt, a1a, a7b, a8e, a3a, a2j, a2i, a5y, a9p, a9u, a4e, hB.fr, hB.f1, hB.f2, hB.f3]
 all_goals first
  | (simp [a2m, a2s]; done)
  | trace_state
section
variable {P : Program} {c : Cfg} {ops : Array Oper} {n k : Nat} {K : Fs -> Prop} {H0 Hn : Heap} {rs : List FM.Loc} {o : Oper} {rest : List Oper} {s : Fs} {As : List Heap} {f : FuncId} {A : List FV} {r : FV}
theorem hfc0 (hfc : ∀ H2, HSub Hn H2 -> FC P c.G f A H2 r H2) (h : HNx P c ops n K H0 rs k o rest s As (some (r, noH))) : HCl P c ops n K H0 rs k o rest s As Hn f true A :=
 ⟨rfl, r, noH, fun H2 h1 _ => by rw [b3a]; exact hfc H2 h1, h⟩
theorem hfc1 (l0 : FM.Loc) (ob : FO) (hfc : ∀ H2, HSub Hn H2 -> H2 l0 = none -> FC P c.G f A H2 r (upd H2 l0 ob)) (h : HNx P c ops n K H0 rs k o rest s As (some (r, upd noH l0 ob))) : HCl P c ops n K H0 rs k o rest s As Hn f true A :=
 ⟨rfl, r, upd noH l0 ob, fun H2 h1 h2 => by rw [d9h]; exact hfc H2 h1 (h2 l0 (by simp [upd])), h⟩
theorem c1i (d j : Nat) (l0 : FM.Loc) (ob : FO) (hdst : o.dst = some d) (hrs : rs = []) (hk : k < n) (hd : b8h ops n k o = true) (hj : As[j]? = some (upd noH l0 ob)) (hw : a6e o j = true)
 (h : HG P c ops n K H0 rs k o rest s As (upd noH l0 ob) (a3b ops o s)) : awH P c ops n K H0 rs k (o :: rest) s As := by
 subst hrs
 refine e7m (upd noH l0 ob) (fun l h => by cases h) hk hd (fun l ob' hl => .inr ⟨j, _, hj, hw, hl⟩) h
end
theorem a6c {Y : Pts} {i : Nat} {a : Int} {S : List Int} (h1 : i < Y.regs.length) (h2 : a.toNat < Y.regs[i].length) : addR Y i a S = ⟨Y.sites, Y.regs.set i (Y.regs[i].set a.toNat (a4d Y.regs[i][a.toNat] S)), Y.cells⟩ := by
 simp [addR, setR, rg, List.getD_eq_getElem?_getD, h1, h2]
theorem a9z {p : Pg} (hp : VOk p) {a b : List Int} (ha : okS (a0d p).length a) (hb : okS (a0d p).length b) : PC Try.prog Gl 45 [.list 1 (ints a), .list 1 (ints b)] (.list 1 (ints (a4d a b))) := by
 have := a2b hp
 exact c3k a b (Nat.le_trans (a6w hb) (by omega)) fun k hk => Nat.le_trans (c5g ha hb.2 k) (by omega)
theorem g0b {p : Pg} (hp : VOk p) {a : List Int} (ha : okS (a0d p).length a) {o : Int} (ho : 0 <= o /\ o < ((a0d p).length : Int)) {H : Heap} {lb : FM.Loc} {T : TypeId} (hH : H lb = some (.cells T 1 [[.int .i64 o]])) : FC Try.prog Gl 45 [.list 1 (ints a), .sl lb 1 0 1] H (.list 1 (ints (a4d a [o]))) H := by
 have := a2b hp
 exact d6d a [o] hH (by simp) fun k hk => Nat.le_trans (c5g ha (fun x hx => by simp at hx; subst hx; exact ho) k) (by omega)
theorem c5j {p : Pg} (hp : VOk p) {a : List Int} (ha : okS (a0d p).length a) {o : Int} (ho : 0 <= o /\ o < ((a0d p).length : Int)) {lb : FM.Loc} {T : TypeId} : ∀ H2, HSub (upd noH lb (.cells T 1 [[.int .i64 o]])) H2 -> FC Try.prog Gl 45 [.list 1 (ints a), .sl lb 1 0 1] H2 (.list 1 (ints (a4d a [o]))) H2 :=
 fun _ hs => g0b (T := T) hp ha ho (hs _ _ (by simp [upd]))
theorem d5h {p : Pg} {y y' : Pts} (hy : Gv.Form p y) (hy' : Gv.Form p y') (l : FM.Loc) (h : PF y l ≠ none) : PF y' l ≠ none := by
 unfold PF at h ⊢
 split at h
 . simp
 . rename_i f
   have : f < y.regs.length := by
    rcases Nat.lt_or_ge f y.regs.length with h' | h'
    . exact h'
    . rw [List.getElem?_eq_none h'] at h; exact absurd rfl h
   rw [List.getElem?_eq_getElem (by rw [hy'.rn, <- hy.rn]; exact this)]; simp
 . simp
 . exact absurd rfl h
theorem BsP.call {p : Pg} {i j : Nat} {B : Heap} (hB : BsP p j B) (hi : i < j) {L : List (FM.Loc × FO)} {Y : Pts} (hy : Gv.Form p Y) (hl : hdN j (L.map Prod.fst) = true) (ho : ninL (inH (HP L B (PF Y))) L) : BsP p i (updL L B) := fun y y' h h' => by
 have e : ∀ l, inH (HP L B (PF Y)) l -> inH (HP L B (PF y')) l := fun l hl' => by
  intro hn
  refine hl' ?_
  rw [a4w] at hn ⊢
  refine ⟨?_, hn.2⟩
  cases e : PF Y l with
  | none => rfl
  | some o => exact absurd hn.1 (d5h hy h' l (by simp [e]))
 have ho' : ninL (fun l => HP L B (PF y') l ≠ none) L := by
  have key : ∀ (L' : List (FM.Loc × FO)), ninL (inH (HP L B (PF Y))) L' -> ninL (fun l => HP L B (PF y') l ≠ none) L' := by
   intro L'
   induction L' with
   | nil => exact fun h => h
   | cons q L' ih => exact fun h => ⟨a5p e h.1, ih h.2⟩
  exact key L ho
 exact Bs.call (L := L) (B := B) (A := PF y) i (hB y y' h h') hi hl ho' fun l hl' => d5h h h' l hl'
theorem a4a {p : Pg} (hp : VOk p) {Y : Pts} (hy : Gv.Form p Y) {i j : Nat} (hi : i < p.funcs.length) (hj : j < p.funcs[i].code.length) : Gv.Form p (a3l p i j p.funcs[i].code[j] Y) :=
 ((d3j hp hi j (List.getElem_mem hj)).1 Y hy).1
theorem b9i {p : Pg} (hp : VOk p) {Y : Pts} (hy : Gv.Form p Y) {l : List Int} (hl : okS (a0d p).length l) {Hn : Heap} (h93 : Hn [93] = some (.cells 41 1 (lays Y.cells))) : ∀ H2, HSub Hn H2 -> H2 [1, 2] = none -> FC Try.prog Gl 48 [.agg [.list 2 (sits (a0d p)), .sl [91] 1 0 p.funcs.length, .sl [93] 1 0 (a0d p).length], .list 1 (ints l)] H2 (.list 1 (ints (a8j Y l))) (upd H2 [1, 2] (.cells 30 3 [[.list 2 (sits (a0d p)), .sl [91] 1 0 p.funcs.length, .sl [93] 1 0 (a0d p).length]])) := fun H2 hs h0 => by
 have := a2b hp
 exact e8u hp hy (hs _ _ h93) h0 hl.2 (Nat.le_trans (a6w hl) this)
def hdLe (j : Nat) (ns : List FM.Loc) : Bool := ns.all fun n => match n with | k :: _ => decide (k <= j) | [] => false
theorem d8j {j : Nat} {ns : List FM.Loc} (h : hdLe j ns = true) : ∀ n ∈ ns, ∃ k r, n = k :: r /\ k <= j := fun n hn => by
 have := List.all_eq_true.1 h n hn
 match n with
 | [] => simp at this
 | k :: r => exact ⟨k, r, rfl, by simpa using this⟩
theorem b0u {H H' : Heap} {L : List (FM.Loc × FO)} {B A : Heap} {l : List FV} {r : FV} {j : Nat} (hb : Bs (inH H) j B A) (hl : hdLe j (L.map Prod.fst) = true) (hr : a2u l = r) (hH : HP [] B A = H') (hn : nin (inH (HP [] B A)) (a2u l)) : LFin H (fun r1 H1 => r1 = r /\ H1 = H') (HP L B A) (some l) := by
 refine ⟨HP [] B A, ⟨hr, hH⟩, ?_, hb.lent, hn, hb.clo⟩
 refine HSub.ext' fun k o hk => ?_
 have hk : B k = some o := hk
 rw [a8z fun p hp e => ?_]
 . exact hk
 . obtain ⟨q, r, hr, hq⟩ := d8j hl p.1 (List.mem_map.2 ⟨p, hp, rfl⟩)
   rw [<- e, hr, hb.fb q r hq] at hk
   cases hk
section
variable {P : Program} {c : Cfg} {ops : Array Oper} {K : Fs -> Prop} {o : Oper} {rest : List Oper} {s : Fs}
theorem a4z {f : FuncId} {A : List FV} {r : FV} {H' : Heap} {L : List (FM.Loc × FO)} {B Af : Heap} (hs : s.H = HP L B Af) (hfc : FC P c.G f A (HP [] (updL L B) Af) r H') (h : StK P c ops rest K (putD c o r { s with H := H' })) : b4z P c ops o rest K s f true A :=
 ⟨rfl, r, H', by rw [hs]; exact hfc, h⟩
end
theorem c6g {p : Pg} {f : FnD} {n : Ins} {v : Int} (h : opR p f n 99 v = true) : v < f.regs /\ (n.b = 0 \/ 0 <= v) := by
 simp [opR] at h
 exact ⟨h.1.2, h.2⟩
theorem c9s {Y : Pts} {i : Nat} {n : Ins} {o : Int} (k : Nat) : b5o Y i n o (k + 1) = addC (b5o Y i n o k) o (rg (b5o Y i n o k) i (n.a + (k + 1))) := by
 unfold b5o
 rw [List.range_succ, List.foldl_append]
 rfl
theorem b8b {p : Pg} {Y : Pts} (hy : Gv.Form p Y) {i : Nat} {n : Ins} {o : Int} (ho : 0 <= o /\ o < ((a0d p).length : Int)) (k : Nat) : Gv.Form p (b5o Y i n o k) := ((d3m (i := i) (n := n) ho k).1 Y hy).1
theorem f9w : IntKind.wrap .i64 1 = 1 := by rw [IntKind.wrap_i64]; omega
theorem a6g {x : Pts} {f : Nat} (h : f < x.regs.length) : PF x [92, f] = some (.cells 41 1 (lays x.regs[f])) := by rw [d9v, List.getElem?_eq_getElem h]; rfl
theorem d5f (x : Pts) (o : Int) (s : List Int) : (addC x o s).regs = x.regs := id (Eq.refl _)
theorem c9x (Y : Pts) (o : Int) (s : List Int) : a5g Y [o] s = addC Y o s := rfl
theorem d6c {p : Pg} (hp : VOk p) {Y : Pts} (hy : Gv.Form p Y) {B : Heap} (hB : BsP p 1 B) {o : Int} {s : List Int} {T : TypeId} (hBl : B [2, 71] = some (.cells T 1 [[.int .i64 o]])) (ho : 0 <= o /\ o < ((a0d p).length : Int)) (hso : okS (a0d p).length s) : FC Try.prog Gl 47 [.agg [.list 2 (sits (a0d p)), .sl [91] 1 0 p.funcs.length, .sl [93] 1 0 (a0d p).length], .sl [2, 71] 1 0 1, .list 1 (ints s)] (HP [] B (PF Y)) (.tup []) (HP [] B (PF (addC Y o s))) := by
 have hsv := a2b hp
 have fB := (hB _ _ hy hy).fb
 have nB : ∀ r, B (1 :: r) = none := fun r => fB 1 r (by decide)
 have hs := hso.2
 have hl : ∀ q ∈ [o], 0 <= q /\ q < ((a0d p).length : Int) := fun q hq => by simp at hq; subst hq; exact ho
 have hyc := hy.cn
 have hco : o.toNat < Y.cells.length := by omega
 have hu := a9z hp (hy.cs _ (List.getElem_mem hco)) hso
 have ha := c8e Y o s rfl hco
 have hF : Gv.Form p (addC Y o s) := a7h hy hl hs 1
 rw [ha] at hF ⊢
 have hw0 : a5g Y [] s = Y := rfl
 have hw1 : a5g Y [o] s = ⟨Y.sites, Y.regs, Y.cells.set o.toNat (a4d Y.cells[o.toNat] s)⟩ := by rw [c9x, ha]
 refine a3s (res := []) 7 30 [] (fun d ix => 1 :: d :: ix) (fn := Try.f47) (by kernel_rfl) (by rfl) (by rfl) (by rfl) (by simp) (by decide) ?_
 repeat' first
  | ((with_reducible refine a1o ?_); refine a2h (σ := {k : Nat // k <= 1}) (fun y => [(6, .int .i64 (y.1 : Int))]) [] (fun y => []) [] (fun y => []) (fun y => PF (a5g Y ([o].take y.1) s)) (fun y => 1 - y.1) ⟨0, by simp⟩ (gk3 (j := 1) [] (hB _ _ hy (a7h hy (l := [o]) hl hs _)) ?_ ?_ ?_ ?_ ?_ ?_ ?_) ?_; (iterate 7 (focus (first | rfl | (simp [LPXB, *, SIMB, hdN, injB, a5g, hBl, a3a, a7n, a7m, a4b, a3o]; done)))); rintro ⟨k, hk⟩; simp only [lpS, LPXB]; (try dsimp only at hk); rcases Nat.lt_or_ge 0 k with hk1 | hk0; obtain rfl : k = 1 := (by omega); rotate_left; obtain rfl : k = 0 := (by omega))
  | ((with_reducible refine a1j ?_); refine a1w (⟨1, by omega⟩) (gk3 (j := 1) [] (hB _ _ hy (a7h hy (l := [o]) hl hs _)) ?_ ?_ ?_ ?_ ?_ ?_ ?_) ?_; (iterate 7 (focus (first | rfl | (simp [LPXB, *, SIMB, hdN, injB, hBl, a3a, a7n, a7m, a4b, a3o]; done)))); (focus (dsimp only; omega)))
  | ((with_reducible refine d2n (j := 1) (hB _ _ hy hF) ?_ ?_ ?_ ?_); (focus rfl); (focus rfl); (focus (first | rfl | (simp [*]; done))); focus (first | trivial | (simp [nin, nins, a2u, inH, HPXB]; done)))
  | with_reducible first | refine a0p (id := 4) 17 a0k (by kernel_rfl) fun K hK => ?_ | refine stp ?_
  | (with_reducible refine stpK ?_; intro K hK)
  | (with_reducible refine stpC ?_; intro T E hT hE)
  | (with_reducible refine stp2 ?_ ?_ <;> intro h)
  | with_reducible first | refine a0q rfl ?_ | refine a1n hu (by simp [nls, nl, *, NLXB]) ?_ | refine hpc hu (by simp [nls, nl, *, NLXB]) ?_ | refine a0t rfl (Nat.le_of_ble_eq_true rfl) a0s ?_ | refine a0t rfl (Nat.le_of_ble_eq_true rfl) (a0r (by simp [HPXB, a3a, fB, ext, upd, *])) ?_ | refine a1v (by decide) (by kernel_rfl) ?_ | refine a0x (by decide) ?_
  | (with_reducible refine Kont.go hK ?_; clear hK K)
  | ((with_reducible first | refine KT.go hT ?_ | refine KT.go hE ?_); clear hT hE T E)
  | simp [*, -List.all_flatten, -List.all_eq_true, DEFB, LENB, a3a, a4b, a3o, a1a, a3y, a3z, a3f, a2u, a6p, hBl, f9w]
theorem b4m {Y : Pts} {f : Nat} {n : Ins} (k : Nat) : a5w Y f n (k + 1) = addR (a5w Y f n k) n.b.toNat (k : Int) (rg (a5w Y f n k) f (n.c + k)) := by
 unfold a5w
 rw [List.range_succ, List.foldl_append]; rfl
theorem a9j (Y : Pts) (f : Nat) (n : Ins) : a5w Y f n 0 = Y := id (Eq.refl _)
theorem d1t {Y : Pts} {f : Nat} {n : Ins} {code : List Ins} {k : Nat} (h : k < code.length) (h1 : code[k].op = 30) (h2 : 0 <= code[k].a) : b0c Y f n (code.take (k + 1)) = addR (b0c Y f n (code.take k)) f n.a (rg (b0c Y f n (code.take k)) n.b.toNat code[k].a) := by
 unfold b0c
 rw [List.take_add_one, List.getElem?_eq_getElem h, List.foldl_append]
 simp [h1, h2]
theorem c6a {Y : Pts} {f : Nat} {n : Ins} {code : List Ins} {k : Nat} (h : k < code.length) (h1 : ¬ (code[k].op = 30 /\ 0 <= code[k].a)) : b0c Y f n (code.take (k + 1)) = b0c Y f n (code.take k) := by
 unfold b0c
 rw [List.take_add_one, List.getElem?_eq_getElem h, List.foldl_append]
 simp [h1]
theorem a9i (Y : Pts) (f : Nat) (n : Ins) (code : List Ins) : b0c Y f n (code.take 0) = Y := id (Eq.refl _)
theorem b7d {p : Pg} {Y : Pts} (hy : Gv.Form p Y) {i : Nat} {n : Ins} (hb0 : 0 <= n.b) (hb : n.b.toNat < p.funcs.length) (hpar : Regs p.funcs[n.b.toNat]) (k : Nat) (hk : (k : Int) <= p.funcs[n.b.toNat].params) : Gv.Form p (a5w Y i n k) := ((d3k hb0 hb hpar k hk).1 Y hy).1
theorem d1s {p : Pg} {Y : Pts} (hy : Gv.Form p Y) {i : Nat} (hi : i < p.funcs.length) {n : Ins} (ha : isR p.funcs[i] n.a) (code : List Ins) : Gv.Form p (b0c Y i n code) := by
 have : GF p (fun x => b0c x i n code) (fun x => ∀ m ∈ code, m.op = 30 /\ 0 <= m.a -> subR (rg x i n.a) (rg x n.b.toNat m.a)) := by
  refine GF.foldl (g := fun y (m : Ins) => if m.op = 30 /\ 0 <= m.a then addR y i n.a (rg y n.b.toNat m.a) else y) (C := fun x m => m.op = 30 /\ 0 <= m.a -> subR (rg x i n.a) (rg x n.b.toNat m.a)) fun m hm => ?_
  by_cases h : m.op = 30 /\ 0 <= m.a
  . simp only [h, and_self, if_true, true_imp_iff]
    exact b1m hi ha fun x hx => hx.regB _ _
  . simp only [h, if_false, false_imp_iff]
    exact GF.id p
 exact (this.1 Y hy).1
theorem c0v {p : Pg} {v : Int} (h : v.toNat < p.funcs.length) : fnAt p v = p.funcs[v.toNat] := by
 unfold fnAt
 rw [List.getD_eq_getElem?_getD, List.getElem?_eq_getElem h, Option.getD_some]
theorem c9u {p : Pg} {Y : Pts} {l : List Int} {k : Nat} (h : k < l.length) : a7v p Y (l.take (k + 1)) = (a4x p (a7v p Y (l.take k)) l[k]).foldl (fun y q => addR y q.toNat 0 [l[k]]) (a7v p Y (l.take k)) := by
 unfold a7v
 rw [List.take_add_one, List.getElem?_eq_getElem h, List.foldl_append]; rfl
theorem d4v {p : Pg} (hp : VOk p) {Y : Pts} (hy : Gv.Form p Y) {l : List Int} (hl : ∀ o ∈ l, 0 <= o /\ o < ((a0d p).length : Int)) (k : Nat) : Gv.Form p (a7v p Y (l.take k)) :=
 ((GF.foldl (p := p) (l := l.take k) (g := fun y (o : Int) => (a4x p y o).foldl (fun y (q : Int) => addR y q.toNat 0 [o]) y) (C := fun y (o : Int) => ∀ q ∈ a4x p y o, subR (rg y q.toNat 0) [o]) (fun o ho => e1r hp o (hl o (List.mem_of_mem_take ho)))).1 Y hy).1
def oneF (Z : Pts) (o : Int) (l : List Int) : Pts := l.foldl (fun y q => addR y q.toNat 0 [o]) Z
theorem c6i (Z : Pts) (o : Int) : oneF Z o [] = Z := id (Eq.refl _)
theorem d2d {Z : Pts} {o : Int} {l : List Int} {k : Nat} (h : k < l.length) : oneF Z o (l.take (k + 1)) = addR (oneF Z o (l.take k)) l[k].toNat 0 [o] := by
 unfold oneF
 rw [List.take_add_one, List.getElem?_eq_getElem h, List.foldl_append]; rfl
theorem b7f {p : Pg} (hp : VOk p) {Z : Pts} (hz : Gv.Form p Z) {o : Int} (ho : 0 <= o /\ o < ((a0d p).length : Int)) {l : List Int} (hl : ∀ q ∈ l, 0 <= q /\ q < (p.funcs.length : Int) /\ a5f p.funcs q = 1) (k : Nat) : Gv.Form p (oneF Z o (l.take k)) := by
 refine ((GF.foldl (p := p) (l := l.take k) (g := fun y (q : Int) => addR y q.toNat 0 [o]) (C := fun y q => subR (rg y q.toNat 0) [o]) fun q hq => ?_).1 Z hz).1
 obtain ⟨h0, h1, h2⟩ := hl q (List.mem_of_mem_take hq)
 obtain ⟨g1, g2⟩ := reg0 hp h0 h1 h2
 refine b1m g1 g2 fun _ _ o' ho' => ?_
 rw [List.mem_singleton] at ho'; subst ho'; exact ho
theorem d4u {p : Pg} {Y : Pts} {l : List Int} {k : Nat} (h : k < l.length) : a7v p Y (l.take (k + 1)) = oneF (a7v p Y (l.take k)) l[k] (a4x p (a7v p Y (l.take k)) l[k]) := c9u h
theorem d8r {p : Pg} {L : List (FM.Loc × FO)} {B : Heap} {Y : Pts} (hy : Gv.Form p Y) (o : Int) : frzs (HP L B (PF Y)) (p.funcs.length + 30) [.agg [.list 4 (fns p.funcs), .list 2 (gbs p.globals), .list 1 (lays p.layouts), .int .i64 p.main], .agg [.list 2 (sits (a0d p)), .sl [91] 1 0 p.funcs.length, .sl [93] 1 0 (a0d p).length], .int .i64 o] = some [.agg [.list 4 (fns p.funcs), .list 2 (gbs p.globals), .list 1 (lays p.layouts), .int .i64 p.main], .agg [.list 2 (sits Y.sites), .list 1 (lls Y.regs), .list 1 (lays Y.cells)], .int .i64 o] := by
 have h := c4g (L := L) (B := B) hy (p.funcs.length + 28) (by omega)
 have hn : nls [.list 4 (fns p.funcs), .list 2 (gbs p.globals), .list 1 (lays p.layouts), .int .i64 p.main] = true := by simp [nls, nl, a0e, a0i, a0a]
 rw [show p.funcs.length + 30 = (p.funcs.length + 29) + 1 from rfl, frzs, show p.funcs.length + 29 = (p.funcs.length + 28) + 1 from rfl, frz, if_pos hn, frzs, h, show p.funcs.length + 28 = (p.funcs.length + 26) + 1 + 1 from rfl]
 simp [frzs, frz, nl]
theorem c7c {p : Pg} (x : Pts) (o : Int) : (a4x p x o).length <= p.funcs.length + 1 := by
 unfold a4x
 generalize (if 0 < o then b5m p (x.sites.getD o.toNat (0, 0)) else ins0) = n
 dsimp only
 by_cases e : n.op = 23
 . rw [if_pos e]; simp
 . rw [if_neg e]
   by_cases e2 : n.op = 24 /\ wrR p x o = false
   . rw [if_pos e2]; simp
   . rw [if_neg e2]
     have := b1w p.funcs p.funcs.length; omega
section
variable {P : Program} {c : Cfg} {ops : Array Oper} {o : Oper} {rest : List Oper} {K Φ : Fs -> Prop} {s : Fs} {f : FuncId} {b : Bool} {A : List FV}
theorem cgH (h : b4z P c ops o rest K s f b A) : b4z P c ops o rest K s f b A := h
theorem mdH {x : Option (FuncId × List FV)} (h : MDo P c ops o rest Φ s x) : MDo P c ops o rest Φ s x := h
theorem wlH {l : List Oper} (h : WL P c ops l Φ s) : WL P c ops l Φ s := h
theorem lfH {H H1 : Heap} {Ψ : FV -> Heap -> Prop} {x : Option (List FV)} (h : LFin H Ψ H1 x) : LFin H Ψ H1 x := h
end
theorem g0c {B A : Heap} {l : FM.Loc} {ks : List Int} (o : Int) (hB : Bs (inH (HP [] B A)) 0 B A) (hl : HP [] B A l = some (mapO ks)) : FC Try.prog Gl 32 [.mp l, .int .i64 o] (HP [] B A) (.bool (decide (o ∈ ks))) (HP [] B A) := by
 have hlk := d7u hl o
 have fA : ∀ r, A (0 :: r) = none := fun r => hB.fa 0 r (by decide)
 have fB : ∀ r, B (0 :: r) = none := fun r => hB.fb 0 r (by decide)
 refine a3s (res := [.tmp 4]) 7 14 [] (fun d ix => 0 :: d :: ix) (fn := Try.f32) (by kernel_rfl) (by rfl) (by rfl) (by rfl) (by simp) (by decide) ?_
 repeat' first
  | ((with_reducible refine d2n (j := 0) hB ?_ ?_ ?_ ?_); (focus rfl); (focus rfl); (focus (first | rfl | (simp [*]; done))); focus (first | trivial | (simp [nin, nins, a2u, inH, HPXB]; done)))
  | with_reducible refine stp ?_
  | (with_reducible refine stpK ?_; intro K hK)
  | (with_reducible refine stpC ?_; intro T E hT hE)
  | (with_reducible refine stp2 ?_ ?_ <;> intro h)
  | with_reducible first | refine a0q rfl ?_ | refine a0t rfl (Nat.le_of_ble_eq_true rfl) a0s ?_ | refine a0t rfl (Nat.le_of_ble_eq_true rfl) (a0r (by simp [HPXB, ext, upd, *])) ?_ | refine a1v (by decide) (by kernel_rfl) ?_ | refine a0x (by decide) ?_
  | (with_reducible refine Kont.go hK ?_; clear hK K)
  | ((with_reducible first | refine KT.go hT ?_ | refine KT.go hE ?_); clear hT hE T E)
  | simp [*, -List.all_flatten, -List.all_eq_true, DEFM, fA, fB]
theorem d6e {H : Heap} (o : Int) (h0 : H [3, 95] = none) : FC Try.prog Gl 61 [.int .i64 o] H (.mp [3, 95]) (upd H [3, 95] (mapO [o])) := by
 have e0 : (fun d ix => if d = 3 then [3, 95] else 0 :: d :: ix : Nat -> List Nat -> FM.Loc) 3 [] = [3, 95] := rfl
 refine c8h (res := [.tmp 2]) 3 7 [] (fun d ix => if d = 3 then [3, 95] else 0 :: d :: ix) (fn := Try.f61) (by kernel_rfl) (by rfl) (by rfl) (by rfl) (by simp) (by decide) ?_
 repeat' first
  | with_reducible first | refine e1i ?_ | refine e1j ?_ | refine stp ?_
  | (with_reducible refine stpK ?_; intro K hK)
  | (with_reducible refine stpC ?_; intro T E hT hE)
  | (with_reducible refine stp2 ?_ ?_ <;> intro h)
  | with_reducible first | refine a0q rfl ?_ | refine a0t rfl (Nat.le_of_ble_eq_true rfl) a0s ?_ | refine a0t rfl (Nat.le_of_ble_eq_true rfl) (a0r (by simp [HPXB, ext, upd, *])) ?_ | refine a1v (by decide) (by kernel_rfl) ?_ | refine a0x (by decide) ?_
  | (with_reducible refine Kont.go hK ?_; clear hK K)
  | ((with_reducible first | refine KT.go hT ?_ | refine KT.go hE ?_); clear hT hE T E)
  | simp [*, -List.all_flatten, -List.all_eq_true, DEFB, a9m, c1c, List.nil_append, KFin]
 all_goals (funext k; simp only [upd]; split <;> rfl)
theorem b4a {H : Heap} {l k : FM.Loc} {since : Nat} {sn : List Nat} {i : Nat} {ks : List Int} (hi : i < ks.length) (h1 : H l = some (.iter (.mp k) since (sn ++ [i]) ks.length)) (h2 : H k = some (mapO ks)) : b5f H (.ptr l 0 0 0) = some (.tup [.int .i64 ks[i], .agg []]) := by
 simp only [b5f, h1, h2, mapO, if_true, List.getLast?_append, List.getLast?_singleton, Option.some_or, c9l hi]
theorem b3n {H : Heap} {l nm : FM.Loc} {ks : List Int} (h : H l = some (mapO ks)) (hn : H nm = none) : b3f Try.prog H nm 67 (.mp l) = some ([(nm, .iter (.mp l) ks.length [] ks.length)], .ptr nm 0 0 0) := by
 simp [b3f, c1a, hn, h, mapO]
theorem a3p {H : Heap} {l : FM.Loc} {o : FO} (h : H l = some o) : inH H l := fun e => by rw [h] at e; cases e
theorem a1i {l : FM.Loc} {o : FO} {L : List (FM.Loc × FO)} {B A : Heap} : inH (HP ((l, o) :: L) B A) l := fun h => by
 have := (a4w.1 h).2
 simp [updL, upd] at this
theorem a0w {l k : FM.Loc} {o : FO} {L : List (FM.Loc × FO)} {B A : Heap} (h : inH (HP L B A) l) : inH (HP ((k, o) :: L) B A) l := fun e => by
 obtain ⟨h1, h2⟩ := a4w.1 e
 simp only [updL, upd] at h2
 split at h2
 . cases h2
 . exact h (a4w.2 ⟨h1, h2⟩)
theorem c6v {L : List (FM.Loc × FO)} {B : Heap} {p : Pg} {y : Pts} {b : Bool} {t : SL} (ht : t.ok y) : inH (HP L B (MF p y b)) t.loc := a3p (a7c ht)
theorem a8n {L : List (FM.Loc × FO)} {B : Heap} {p : Pg} {y : Pts} {b : Bool} : inH (HP L B (MF p y b)) [88] := a3p e0d
theorem f6b {p : Pg} {y : Pts} {b b' : Bool} {B : Heap} {lf : FM.Loc} {ks : List Int} {j : Nat} (hB : BsM p j B) (hj : j <= 20) (hy : Shp p y) (h : HP [] B (MF p y b) lf = some (mapO ks)) {L : List (FM.Loc × FO)} (hL : hdN j (L.map Prod.fst) = true) : HP L B (MF p y b') lf = some (mapO ks) := by
 have hbb := hB y b y b hy hy
 have hsame : lf ≠ [88] -> MF p y b' lf = MF p y b lf := fun hne => by
  unfold MF
  split <;> first | rfl | exact absurd rfl hne
 have hne : lf ≠ [88] := fun e => by subst e; rw [e0d] at h; cases h
 have h := b7l (L := L) hbb.fb hL lf (mapO ks) h
 unfold HP at h ⊢
 rw [a3v] at h ⊢
 rw [hsame hne]
 exact h
theorem e3r {n : Nat} {sn : List Nat} {i : Nat} (hnd : sn.Nodup) (hlt : ∀ j ∈ sn, j < n) (hi : i < n) (hn : i ∉ sn) : (sn ++ [i]).Nodup /\ (∀ j ∈ sn ++ [i], j < n) /\ sn.length < n := by
 have h1 : (sn ++ [i]).Nodup := by
  rw [List.nodup_append]
  refine ⟨hnd, by simp, fun a ha b hb e => ?_⟩
  simp at hb
  subst hb; subst e
  exact hn ha
 have h2 : ∀ j ∈ sn ++ [i], j < n := fun j hj => by
  rcases List.mem_append.1 hj with hj | hj
  . exact hlt j hj
  . simp at hj; omega
 have := b3p n _ h1 h2
 simp at this
 exact ⟨h1, h2, by omega⟩
theorem d6z {ks : List Int} {sn : List Nat} {S : List Int} (hlt : ∀ i ∈ sn, i < ks.length) (hz : ∀ e ∈ ents ks, e.2.2 < ks.length -> e.2.2 ∈ sn) : (∀ i ∈ sn, ks.getD i 0 ∈ S) ↔ ∀ o ∈ ks, o ∈ S := by
 constructor
 . intro h o ho
   obtain ⟨i, hi, rfl⟩ := List.getElem_of_mem ho
   have := h i (hz _ (a9d.2 ⟨i, hi, rfl⟩) hi)
   rwa [List.getD_eq_getElem?_getD, List.getElem?_eq_getElem hi, Option.getD_some] at this
 . intro h i hi
   rw [List.getD_eq_getElem?_getD, List.getElem?_eq_getElem (hlt i hi), Option.getD_some]
   exact h _ (List.getElem_mem _)
theorem e3t {ks : List Int} {sn : List Nat} {i : Nat} {S : List Int} (hi : i < ks.length) : (∀ j ∈ sn ++ [i], ks.getD j 0 ∈ S) ↔ (∀ j ∈ sn, ks.getD j 0 ∈ S) /\ ks[i] ∈ S := by
 constructor
 . intro h
   refine ⟨fun j hj => h j (by simp [hj]), ?_⟩
   have := h i (by simp)
   rwa [List.getD_eq_getElem?_getD, List.getElem?_eq_getElem hi, Option.getD_some] at this
 . rintro ⟨h1, h2⟩ j hj
   rcases List.mem_append.1 hj with hj | hj
   . exact h1 j hj
   . simp at hj; subst hj
     rw [List.getD_eq_getElem?_getD, List.getElem?_eq_getElem hi, Option.getD_some]; exact h2
theorem e3s {ks : List Int} {sn : List Nat} {i : Nat} {S : List Int} {g fl : Bool} (hi : i < ks.length) (h : (g && decide (∀ j ∈ sn, ks.getD j 0 ∈ S)) = fl) : (g && decide (∀ j ∈ sn ++ [i], ks.getD j 0 ∈ S)) = (fl && decide (ks[i] ∈ S)) := by
 rw [<- h, Bool.and_assoc, <- Bool.decide_and]
 congr 1
 simp only [e3t hi]
theorem d0j {p : Pg} {j : Nat} {B : Heap} {L : List (FM.Loc × FO)} {y : Pts} {b : Bool} {t : SL} (o : Int) (hB : BsM p j B) (h0 : 0 < j) (hy : Shp p y) (ht : t.ok y) (hl : hdN j (L.map Prod.fst) = true) (hn : ninL (inH (HP L B (MF p y b))) L) : FC Try.prog Gl 32 [.mp t.loc, .int .i64 o] (HP [] (updL L B) (MF p y b)) (.bool (decide (o ∈ getS y t))) (HP [] (updL L B) (MF p y b)) :=
 g0c o ((hB.call 0 h0 hy hl hn) y b y b hy hy) (a7c ht)
theorem in_B {L : List (FM.Loc × FO)} {B A : Heap} {l : FM.Loc} (h : B l ≠ none) : inH (HP L B A) l := fun e => by
 have := (a4w.1 e).2
 induction L with
 | nil => exact h this
 | cons q r ih =>
   obtain ⟨k, o⟩ := q
   simp only [updL, upd] at this
   split at this
   . cases this
   . exact ih (a4w.2 ⟨(a4w.1 e).1, this⟩) this
def OutT (p : Pg) (m : Bool) (B : Heap) (C : Pts -> Prop) (Y : Pts) (g : Bool) (r : FV) (H' : Heap) : Prop := r = .tup [] /\ ∃ Y' g', H' = HP [] B (MF p Y' g') /\ Shp p Y' /\ TR m C C Y g Y' g'
def CT (p : Pg) (m : Bool) (f : FuncId) : Prop := ∀ (B : Heap) (y : Pts) (b : Bool) (t : SL) (lf : FM.Loc) (ks : List Int), Shp p y -> t.ok y -> BsM p 1 B -> okA (a0d p).length ks -> HP [] B (MF p y b) lf = some (mapO ks) ->
 FCr Try.prog Gl f [.mp t.loc, .mp lf, .ptr [88] 1 0 0] (HP [] B (MF p y b)) (OutT p m B (inS t ks) y b)
theorem g0d {p : Pg} {B : Heap} {Y : Pts} {g : Bool} {t : SL} {lf : FM.Loc} {ks : List Int} (hy : Shp p Y) (ht : t.ok Y) (hB : BsM p 1 B) (hl : HP [] B (MF p Y g) lf = some (mapO ks)) : FCr Try.prog Gl 31 [.mp t.loc, .mp lf, .ptr [88] 1 0 0] (HP [] B (MF p Y g)) (fun r H' => r = .tup [] /\ H' = HP [] B (MF p Y (g && decide (∀ o ∈ ks, o ∈ getS Y t)))) := by
 have fB : ∀ r, B (1 :: r) = none := fun r => (hB Y g Y g hy hy).fb 1 r (by decide)
 have hlf : ∀ (L : List (FM.Loc × FO)) (b' : Bool), hdN 1 (L.map Prod.fst) = true -> HP L B (MF p Y b') lf = some (mapO ks) := fun L b' hL => f6b hB (by decide) hy hl hL
 have hrg := b3n (nm := [1, 7]) hl (by simp [a2e, a2d, a2s, fB])
 have hi1 : ∀ (L : List (FM.Loc × FO)) (b' : Bool), inH (HP L B (MF p Y b')) t.loc := fun L b' => c6v ht
 have hi2 : ∀ (L : List (FM.Loc × FO)) (b' : Bool), inH (HP L B (MF p Y b')) [88] := fun L b' => a8n
 have hi3 : ∀ (L : List (FM.Loc × FO)) (b' : Bool), hdN 1 (L.map Prod.fst) = true -> inH (HP L B (MF p Y b')) lf := fun L b' hL => a3p (hlf L b' hL)
 have hlf0 : ∀ b', HP [] B (MF p Y b') lf = some (mapO ks) := fun b' => hlf [] b' rfl
 refine a4f (res := []) 6 18 [7] (fun d ix => 1 :: d :: ix) (fn := Try.f31) (by kernel_rfl) (by rfl) (by rfl) (by rfl) (by simp) (by decide) ?_
 repeat' first
  | (with_reducible refine a1y (id := 1) fun K hK => ?_)
  | ((with_reducible refine a1o ?_); refine a2h (σ := {x : List Nat × Bool // x.1.Nodup /\ (∀ i ∈ x.1, i < ks.length) /\ (g && decide (∀ i ∈ x.1, ks.getD i 0 ∈ getS Y t)) = x.2}) (fun y => [(5, .undef)]) [7] (fun y => []) [] (fun y => [([1, 7], .iter (.mp lf) ks.length y.1.1 ks.length)]) (fun y => MF p Y y.1.2) (fun y => ks.length - y.1.1.length) ⟨([], g), by simp, by simp, by simp⟩ (gk3i (j := 1) [] (hB _ _ _ _ hy hy) ?_ ?_ ?_ ?_ ?_ ?_ ?_) ?_; (iterate 7 (focus (first | rfl | (simp [LPXB, *, SIMB, hdN, injB, fB, a2e, a1u, a2d, hdN, a1i, a0w]; done)))); rintro ⟨⟨sn, fl⟩, hnd, hlt, hfl⟩; simp only [lpS, LPXB]; (try dsimp only at hnd hlt hfl))
  | ((with_reducible refine wlH ?_); refine b9d (l := [1, 7]) (k := lf) (since := ks.length) (last := ks.length) (clk := ks.length) (seen := sn) (es := ents ks) ?_ rfl rfl (Nat.le_of_ble_eq_true rfl) ?_ ?_ ?_ ?_ ?_ ?_; (focus (first | rfl | (simp [a3b]; done))); (focus (first | rfl | (simp [rv, Fs.get, lk]; done))); (focus (simp [HPXB, fB, a2e, a1u, a2d]; done)); (focus (exact hlf _ _ rfl)); (focus (rcases sn with _ | ⟨i, sn'⟩; exact .inl rfl; exact .inr ⟨_, List.mem_of_getElem? (d9m (hlt i (by simp))), hlt i (by simp)⟩)); rotate_left; (rintro e he hn; obtain ⟨i, hi, rfl⟩ := a9d.1 he; (try dsimp only at hn); obtain ⟨hnd', hlt', hlen⟩ := e3r hnd hlt hi hn; have hen := fun (b' : Bool) => b4a (H := HP [([1, 7], FO.iter (.mp lf) ks.length (sn ++ [i]) ks.length)] B (MF p Y b')) (l := [1, 7]) (k := lf) (since := ks.length) (sn := sn) hi (by simp [HPXB, fB, a2e, a1u, a2d]) (hlf _ _ rfl)); rotate_right; intro hz)
  | (with_reducible refine b3d ?_)
  | ((with_reducible refine lfH ?_); refine a7d (j := 1) (hB _ _ _ _ hy hy) rfl ?_ ?_)
  | ((with_reducible refine cgH ?_); refine a4z rfl (d0j _ hB (by decide) hy ht ?_ ?_) ?_; (focus rfl); (focus (first | rfl | (simp [ninL, ninO, a3m, nins, nin, a0e, a0i, a0a, a1d, a0c, a0b, a2c, mapO, a2f, a1i, a0w, hdN, *]; done))))
  | ((with_reducible refine a1j ?_); refine a1w (⟨(sn ++ [i], fl && decide (ks[i] ∈ getS Y t)), hnd', hlt', e3s hi hfl⟩) (gk3i (j := 1) [] (hB _ _ _ _ hy hy) ?_ ?_ ?_ ?_ ?_ ?_ ?_) ?_; (iterate 7 (focus (first | rfl | (simp [LPXB, *, SIMB, hdN, injB, fB, a2e, a1u, a2d, hdN, a1i, a0w]; done)))); (focus (dsimp only; simp only [List.length_append, List.length_singleton]; omega)))
  | with_reducible refine stp ?_
  | (with_reducible refine stpK ?_; intro K hK)
  | (with_reducible refine stpC ?_; intro T E hT hE)
  | (with_reducible refine stp2 ?_ ?_ <;> intro h)
  | with_reducible first | refine a0q rfl ?_ | refine a0t rfl (Nat.le_of_ble_eq_true rfl) a0s ?_ | refine a0t rfl (Nat.le_of_ble_eq_true rfl) (a0r (by simp [HPXB, ext, upd, *])) ?_ | refine a1v (by decide) (by kernel_rfl) ?_ | refine a0x (by decide) ?_
  | (with_reducible refine Kont.go hK ?_; clear hK K)
  | ((with_reducible first | refine KT.go hT ?_ | refine KT.go hE ?_); clear hT hE T E)
  | simp [*, -List.all_flatten, -List.all_eq_true, DEFM, fB, a2e, a1u, a2d, e0d, f6a, hdN]
 all_goals first
  | trivial
  | (have h := d6z (S := getS Y t) hlt hz; rw [<- hfl]; simp only [h]; done)
  | trace_state
theorem f5b (p : Pg) : CT p true 31 := fun B y b t lf ks hy ht hB _ hl => (g0d hy ht hB hl).mono fun r H' ⟨h1, h2⟩ => ⟨h1, y, _, h2, hy, TR.cmp rfl⟩
theorem d2y {p : Pg} {m : Bool} {t : SL} {C : Pts -> Int -> Prop} {Y Z : Pts} {g h : Bool} {sn : List Nat} {lst : Nat} (H : LI p m t C Y g sn lst Z h) (hz : ∀ e ∈ ents (getS Z t), e.2.2 < (getS Y t).length -> e.2.2 ∈ sn) : ∀ i, i < (getS Y t).length -> i ∈ sn := fun i hi => by
 have h1 : i < (getS Z t).length := Nat.lt_of_lt_of_le hi (H.tr.pre.pf t).length_le
 exact hz _ (a9d.2 ⟨i, h1, rfl⟩) hi
theorem c4w {p : Pg} {m : Bool} {t : SL} {C : Pts -> Int -> Prop} {Y Z : Pts} {g h : Bool} {sn : List Nat} {lst : Nat} (H : LI p m t C Y g sn lst Z h) : sn = [] \/ ∃ e ∈ ents (getS Z t), e.2.2 < lst := by
 cases sn with
 | nil => exact .inl rfl
 | cons i r => exact .inr ⟨_, a9d.2 ⟨i, H.lt' i (by simp), rfl⟩, H.lt i (by simp)⟩
structure BxC (B : Heap) (f nr : Nat) (fk : FuncId) : Prop where
 r : B [3, 8] = some (.cells 62 1 [[.sl [83, f] 1 0 nr]])
 k : B [3, 7] = some (.cells 70 1 [[.clo fk [] [.ptr [88] 1 0 0]]])
 a : B [3, 4] = some (.cells 57 1 [[.ptr [81] 8 0 0]])
section
variable {P : Program} {c : Cfg} {s : Fs} {ops : Array Oper} {o : Oper} {post : List Oper} {Φ : Fs -> Prop}
theorem a5n (h : Φ s) : WL P c ops [] Φ s := fun X a w Q hR hQ => hQ s a w h hR
theorem a3g {f : FuncId} {A : List FV} {Ψ : FV -> Heap -> Prop} {L : List (FM.Loc × FO)} {B Af : Heap} (hf : fnOk P f = true) (hN : ∀ d, o.dst = some d -> d < c.N) (hs : s.H = HP L B Af) (hfc : FCr P c.G f A (HP [] (updL L B) Af) Ψ) (h : ∀ r H', Ψ r H' -> StL P c ops post Φ (putD c o r { s with H := H' })) : MDo P c ops o post Φ s (some (f, A)) :=
 e4u hf hN (by rw [hs]; exact hfc) h
end
theorem b5p {p : Pg} {m : Bool} {fk : FuncId} {j : Nat} {L : List (FM.Loc × FO)} {B : Heap} {y : Pts} {b : Bool} (t : SL) (lf : FM.Loc) {ks : List Int} (hCT : CT p m fk) (hB : BsM p j B) (h1 : 1 < j) (hy : Shp p y) (ht : t.ok y) (hk : okA (a0d p).length ks) (hl : HP L B (MF p y b) lf = some (mapO ks)) (hL : hdN j (L.map Prod.fst) = true) (hn : ninL (inH (HP L B (MF p y b))) L) :
 FCr Try.prog Gl fk [.mp t.loc, .mp lf, .ptr [88] 1 0 0] (HP [] (updL L B) (MF p y b)) (OutT p m (updL L B) (inS t ks) y b) := hCT _ y b t lf ks hy ht (hB.call 1 h1 hy hL hn) hk hl
theorem rd_s {f : Nat} {e o : Int} {Z z : Pts} (hs : sub Z z) (hc : rdC f e z o) : inS (.r f e.toNat) (getS Z (.c o.toNat)) z := fun q hq => by
 rw [a7t]
 exact hc q (by rw [<- b7o]; exact hs.2 _ q hq)
theorem rd_n {f : Nat} {e o : Int} {Z : Pts} (hc : inS (.r f e.toNat) (getS Z (.c o.toNat)) Z) : rdC f e Z o := fun q hq => by
 have := hc q (by rw [b7o]; exact hq)
 rwa [a7t] at this
theorem wr_s {f : Nat} {e o : Int} {Z z : Pts} (hs : sub Z z) (hc : wrC f e z o) : inS (.c o.toNat) (getS Z (.r f e.toNat)) z := fun q hq => by
 rw [b7o]
 exact hc q (by rw [<- a7t]; exact hs.2 _ q hq)
theorem wr_n {f : Nat} {e o : Int} {Z : Pts} (hc : inS (.c o.toNat) (getS Z (.r f e.toNat)) Z) : wrC f e Z o := fun q hq => by
 have := hc q (by rw [a7t]; exact hq)
 rwa [b7o] at this
theorem g0f {p : Pg} {m : Bool} {fk : FuncId} (hCT : CT p m fk) (hfk : fnOk Try.prog fk = true) {B : Heap} {Y : Pts} {g : Bool} {f : Nat} {hf : f < p.funcs.length} (hy : Shp p Y) (hB : BsM p 2 B) {nr : Nat} (hnr : p.funcs[f].regs = (nr : Int)) (hX : BxC B f nr fk) {a e : Int} (ha : isR p.funcs[f] a) (he : isR p.funcs[f] e) : FCr Try.prog Gl 59 [.int .i64 e, .int .i64 a, .ptr [3, 8] 1 0 0, .ptr [3, 7] 1 0 0, .ptr [3, 4] 1 0 0] (HP [] B (MF p Y g)) (OutT p m B (fun z => ∀ o ∈ getS z (SL.r f a.toNat), rdC f e z o) Y g) := by
 have fB : ∀ r, B (2 :: r) = none := fun r => (hB Y g Y g hy hy).fb 2 r (by decide)
 obtain ⟨fB8, fB7, fB4⟩ := hX
 obtain ⟨y1, y2⟩ := hy.at hf
 rw [hnr, Int.toNat_natCast] at y2
 have y3 := hy.rn
 have y4 := hy.cn
 obtain ⟨a0, a1⟩ := id ha
 obtain ⟨e0, e1⟩ := id he
 have aN : a.toNat < nr := by omega
 have eN : e.toNat < nr := by omega
 have a2 : a < (nr : Int) := by omega
 have e2 : e < (nr : Int) := by omega
 have hYt := hy.rok hf ha
 have hrg : b3f Try.prog (HP [] B (MF p Y g)) [2, 12] 67 (.mp [85, f, a.toNat]) = some ([([2, 12], .iter (.mp [85, f, a.toNat]) (getS Y (.r f a.toNat)).length [] (getS Y (.r f a.toNat)).length)], .ptr [2, 12] 0 0 0) := b3n (a7c (L := []) (B := B) (p := p) (b := g) hYt) (by simp [a2e, a2d, a2s, fB])
 have hi1 : ∀ (L : List (FM.Loc × FO)) (Z : Pts) (h : Bool), Shp p Z -> inH (HP L B (MF p Z h)) [85, f, a.toNat] := fun L Z h hZ => c6v (hZ.rok hf ha)
 have hi2 : ∀ (L : List (FM.Loc × FO)) (A : Heap), inH (HP L B A) [3, 8] := fun L A => in_B (by rw [fB8]; simp)
 have hi3 : ∀ (L : List (FM.Loc × FO)) (A : Heap), inH (HP L B A) [3, 7] := fun L A => in_B (by rw [fB7]; simp)
 have hi4 : ∀ (L : List (FM.Loc × FO)) (A : Heap), inH (HP L B A) [3, 4] := fun L A => in_B (by rw [fB4]; simp)
 refine a4f (res := []) 8 30 [12] (fun d ix => 2 :: d :: ix) (fn := Try.f59) (by kernel_rfl) (by rfl) (by rfl) (by rfl) (by simp) (by decide) ?_
 repeat' first
  | (with_reducible refine a1y (id := 1) fun K hK => ?_)
  | (with_reducible refine a1z (id := 3) [] 12 a0k (by kernel_rfl) fun K hK => ?_)
  | ((with_reducible refine a1o ?_); refine a2h (σ := {x : (List Nat × Nat) × (Pts × Bool) // LI p m (SL.r f a.toNat) (rdC f e) Y g x.1.1 x.1.2 x.2.1 x.2.2}) (fun y => [(7, .undef)]) [12] (fun y => []) [] (fun y => [([2, 12], .iter (.mp [85, f, a.toNat]) (getS Y (SL.r f a.toNat)).length y.1.1.1 y.1.1.2)]) (fun y => MF p y.1.2.1 y.1.2.2) (fun y => (a0d p).length - y.1.1.1.length) ⟨(([], (getS Y (SL.r f a.toNat)).length), (Y, g)), LI.start hy⟩ (gk3i (j := 2) [] (hB _ _ _ _ hy hy) ?_ ?_ ?_ ?_ ?_ ?_ ?_) ?_; (iterate 7 (focus (first | rfl | (simp [LPXB, *, SIMB, hdN, injB, fB, a2e, a1u, a2d, hdN, a1i, a0w]; done)))); rintro ⟨⟨⟨sn, lst⟩, ⟨Z, h⟩⟩, HL⟩; simp only [lpS, LPXB]; (try dsimp only at HL); have hZ := HL.sh; have hZt := hZ.rok hf ha; have hZe := hZ.rok hf he; obtain ⟨z1, z2⟩ := hZ.at hf; rw [hnr, Int.toNat_natCast] at z2; have z3 := hZ.rn; have z4 := hZ.cn)
  | ((with_reducible refine wlH ?_); refine b9d (l := [2, 12]) (k := [85, f, a.toNat]) (since := (getS Y (SL.r f a.toNat)).length) (last := lst) (clk := (getS Z (SL.r f a.toNat)).length) (seen := sn) (es := ents (getS Z (SL.r f a.toNat))) ?_ rfl rfl (Nat.le_of_ble_eq_true rfl) ?_ ?_ ?_ ?_ ?_ ?_; (focus (first | rfl | (simp [a3b]; done))); (focus (first | rfl | (simp [rv, Fs.get, lk]; done))); (focus (simp [HPXB, fB, a2e, a1u, a2d]; done)); (focus (exact a7c hZt)); (focus (exact c4w HL)); rotate_left; (rintro e' he' hn; obtain ⟨i, hi, rfl⟩ := a9d.1 he'; (try dsimp only at hn); have hlen := HL.len hi hn; have hen := b4a (H := HP [([2, 12], FO.iter (.mp [85, f, a.toNat]) (getS Y (SL.r f a.toNat)).length (sn ++ [i]) (getS Z (SL.r f a.toNat)).length)] B (MF p Z h)) (l := [2, 12]) (k := [85, f, a.toNat]) (since := (getS Y (SL.r f a.toNat)).length) (sn := sn) hi (by simp [HPXB, fB, a2e, a1u, a2d]) (a7c hZt); obtain ⟨o0, o1⟩ := (hZ.gets (SL.r f a.toNat)).2 _ (List.getElem_mem hi); have hgo : (getS Z (SL.r f a.toNat))[i] = (getS Z (SL.r f a.toNat))[i] := rfl; generalize ho : (getS Z (SL.r f a.toNat))[i] = o at hen o0 o1; have hoc := hZ.cok o0 o1; have hol : o.toNat < Z.cells.length := (by rw [z4]; omega); refine b3d ?_); rotate_right; intro hz; refine b3d ?_)
  | (with_reducible refine a4v ?_)
  | ((with_reducible refine mdH ?_); refine a3g hfk (fun d hd => ?_) rfl (b5p (SL.r f e.toNat) (SL.c o.toNat).loc hCT hB (by decide) hZ hZe (hZ.gets (SL.c o.toNat)) (a7c hoc) rfl ?_) ?_; (focus (cases hd; exact Nat.le_of_ble_eq_true rfl)); (focus (first | rfl | (simp [ninL, ninO, a3m, nins, nin, a0e, a0i, a0a, a1d, a0c, a0b, a2c, mapO, a2f, a1i, a0w, hdN, *]; done))); (rintro r' H' ⟨rfl, Z2, h2, rfl, hZ2, hT⟩))
  | ((obtain HL2 : LI p m (SL.r f a.toNat) (rdC f e) Y g (sn ++ [i]) (getS Z (SL.r f a.toNat)).length Z2 h2 := HL.step hi hn hZ2 hT (fun z hs hc => by rw [ho] at hc; exact rd_s hs hc) (fun hc => by rw [ho]; exact rd_n hc)); have hB2 := hZ2; ((with_reducible refine a1j ?_); refine a1w (⟨((sn ++ [i], (getS Z (SL.r f a.toNat)).length), (Z2, h2)), HL2⟩) (gk3i (j := 2) [] (hB _ _ _ _ hy hZ2) ?_ ?_ ?_ ?_ ?_ ?_ ?_) ?_; (iterate 7 (focus (first | rfl | (simp [LPXB, *, SIMB, hdN, injB, fB, a2e, a1u, a2d, hdN, a1i, a0w]; done)))); (focus (dsimp only; simp only [List.length_append, List.length_singleton]; omega))))
  | ((with_reducible refine lfH ?_); refine a7d (j := 2) (hB _ _ _ _ hy hZ) rfl ⟨rfl, Z, h, rfl, hZ, HL.fin (d2y HL hz)⟩ trivial)
  | (with_reducible refine a5n ?_)
  | (with_reducible refine a7z ?_)
  | with_reducible first | refine a0p (id := 3) 13 a0k (by kernel_rfl) fun K hK => ?_ | refine stp ?_
  | (with_reducible refine stpK ?_; intro K hK)
  | (with_reducible refine stpC ?_; intro T E hT hE)
  | (with_reducible refine stp2 ?_ ?_ <;> intro h)
  | with_reducible first | refine a0q rfl ?_ | refine a0t rfl (Nat.le_of_ble_eq_true rfl) a0s ?_ | refine a0t rfl (Nat.le_of_ble_eq_true rfl) (a0r (by simp [HPXB, ext, upd, *])) ?_ | refine a1v (by decide) (by kernel_rfl) ?_ | refine a0x (by decide) ?_
  | (with_reducible refine Kont.go hK ?_; clear hK K)
  | ((with_reducible first | refine KT.go hT ?_ | refine KT.go hE ?_); clear hT hE T E)
  | simp [*, -List.all_flatten, -List.all_eq_true, DEFM, fB, a2e, a1u, a2d, hdN, a1m, a0y, a0z, a2n, a2o, a2p, anR, a6m, a6l, a3r, a4g, a3k, MG_t, MG_f, fB4, fB7, fB8, rmvs]
theorem g0e {p : Pg} {m : Bool} {fk : FuncId} (hCT : CT p m fk) (hfk : fnOk Try.prog fk = true) {B : Heap} {Y : Pts} {g : Bool} {f : Nat} {hf : f < p.funcs.length} (hy : Shp p Y) (hB : BsM p 2 B) {nr : Nat} (hnr : p.funcs[f].regs = (nr : Int)) (hX : BxC B f nr fk) {a e : Int} (ha : isR p.funcs[f] a) (he : isR p.funcs[f] e) : FCr Try.prog Gl 60 [.int .i64 a, .int .i64 e, .ptr [3, 8] 1 0 0, .ptr [3, 7] 1 0 0, .ptr [3, 4] 1 0 0] (HP [] B (MF p Y g)) (OutT p m B (fun z => ∀ o ∈ getS z (SL.r f a.toNat), wrC f e z o) Y g) := by
 have fB : ∀ r, B (2 :: r) = none := fun r => (hB Y g Y g hy hy).fb 2 r (by decide)
 obtain ⟨fB8, fB7, fB4⟩ := hX
 obtain ⟨y1, y2⟩ := hy.at hf
 rw [hnr, Int.toNat_natCast] at y2
 have y3 := hy.rn
 have y4 := hy.cn
 obtain ⟨a0, a1⟩ := id ha
 obtain ⟨e0, e1⟩ := id he
 have aN : a.toNat < nr := by omega
 have eN : e.toNat < nr := by omega
 have a2 : a < (nr : Int) := by omega
 have e2 : e < (nr : Int) := by omega
 have hYt := hy.rok hf ha
 have hrg : b3f Try.prog (HP [] B (MF p Y g)) [2, 12] 67 (.mp [85, f, a.toNat]) = some ([([2, 12], .iter (.mp [85, f, a.toNat]) (getS Y (.r f a.toNat)).length [] (getS Y (.r f a.toNat)).length)], .ptr [2, 12] 0 0 0) := b3n (a7c (L := []) (B := B) (p := p) (b := g) hYt) (by simp [a2e, a2d, a2s, fB])
 have hi1 : ∀ (L : List (FM.Loc × FO)) (Z : Pts) (h : Bool), Shp p Z -> inH (HP L B (MF p Z h)) [85, f, a.toNat] := fun L Z h hZ => c6v (hZ.rok hf ha)
 have hi2 : ∀ (L : List (FM.Loc × FO)) (A : Heap), inH (HP L B A) [3, 8] := fun L A => in_B (by rw [fB8]; simp)
 have hi3 : ∀ (L : List (FM.Loc × FO)) (A : Heap), inH (HP L B A) [3, 7] := fun L A => in_B (by rw [fB7]; simp)
 have hi4 : ∀ (L : List (FM.Loc × FO)) (A : Heap), inH (HP L B A) [3, 4] := fun L A => in_B (by rw [fB4]; simp)
 refine a4f (res := []) 8 30 [12] (fun d ix => 2 :: d :: ix) (fn := Try.f60) (by kernel_rfl) (by rfl) (by rfl) (by rfl) (by simp) (by decide) ?_
 repeat' first
  | (with_reducible refine a1y (id := 1) fun K hK => ?_)
  | (with_reducible refine a1z (id := 3) [] 12 a0k (by kernel_rfl) fun K hK => ?_)
  | ((with_reducible refine a1o ?_); refine a2h (σ := {x : (List Nat × Nat) × (Pts × Bool) // LI p m (SL.r f a.toNat) (wrC f e) Y g x.1.1 x.1.2 x.2.1 x.2.2}) (fun y => [(7, .undef)]) [12] (fun y => []) [] (fun y => [([2, 12], .iter (.mp [85, f, a.toNat]) (getS Y (SL.r f a.toNat)).length y.1.1.1 y.1.1.2)]) (fun y => MF p y.1.2.1 y.1.2.2) (fun y => (a0d p).length - y.1.1.1.length) ⟨(([], (getS Y (SL.r f a.toNat)).length), (Y, g)), LI.start hy⟩ (gk3i (j := 2) [] (hB _ _ _ _ hy hy) ?_ ?_ ?_ ?_ ?_ ?_ ?_) ?_; (iterate 7 (focus (first | rfl | (simp [LPXB, *, SIMB, hdN, injB, fB, a2e, a1u, a2d, hdN, a1i, a0w]; done)))); rintro ⟨⟨⟨sn, lst⟩, ⟨Z, h⟩⟩, HL⟩; simp only [lpS, LPXB]; (try dsimp only at HL); have hZ := HL.sh; have hZt := hZ.rok hf ha; have hZe := hZ.rok hf he; obtain ⟨z1, z2⟩ := hZ.at hf; rw [hnr, Int.toNat_natCast] at z2; have z3 := hZ.rn; have z4 := hZ.cn)
  | ((with_reducible refine wlH ?_); refine b9d (l := [2, 12]) (k := [85, f, a.toNat]) (since := (getS Y (SL.r f a.toNat)).length) (last := lst) (clk := (getS Z (SL.r f a.toNat)).length) (seen := sn) (es := ents (getS Z (SL.r f a.toNat))) ?_ rfl rfl (Nat.le_of_ble_eq_true rfl) ?_ ?_ ?_ ?_ ?_ ?_; (focus (first | rfl | (simp [a3b]; done))); (focus (first | rfl | (simp [rv, Fs.get, lk]; done))); (focus (simp [HPXB, fB, a2e, a1u, a2d]; done)); (focus (exact a7c hZt)); (focus (exact c4w HL)); rotate_left; (rintro e' he' hn; obtain ⟨i, hi, rfl⟩ := a9d.1 he'; (try dsimp only at hn); have hlen := HL.len hi hn; have hen := b4a (H := HP [([2, 12], FO.iter (.mp [85, f, a.toNat]) (getS Y (SL.r f a.toNat)).length (sn ++ [i]) (getS Z (SL.r f a.toNat)).length)] B (MF p Z h)) (l := [2, 12]) (k := [85, f, a.toNat]) (since := (getS Y (SL.r f a.toNat)).length) (sn := sn) hi (by simp [HPXB, fB, a2e, a1u, a2d]) (a7c hZt); obtain ⟨o0, o1⟩ := (hZ.gets (SL.r f a.toNat)).2 _ (List.getElem_mem hi); have hgo : (getS Z (SL.r f a.toNat))[i] = (getS Z (SL.r f a.toNat))[i] := rfl; generalize ho : (getS Z (SL.r f a.toNat))[i] = o at hen o0 o1; have hoc := hZ.cok o0 o1; have hol : o.toNat < Z.cells.length := (by rw [z4]; omega); refine b3d ?_); rotate_right; intro hz; refine b3d ?_)
  | (with_reducible refine a4v ?_)
  | ((with_reducible refine mdH ?_); refine a3g hfk (fun d hd => ?_) rfl (b5p (SL.c o.toNat) (SL.r f e.toNat).loc hCT hB (by decide) hZ hoc (hZ.gets (SL.r f e.toNat)) (a7c hZe) rfl ?_) ?_; (focus (cases hd; exact Nat.le_of_ble_eq_true rfl)); (focus (first | rfl | (simp [ninL, ninO, a3m, nins, nin, a0e, a0i, a0a, a1d, a0c, a0b, a2c, mapO, a2f, a1i, a0w, hdN, *]; done))); (rintro r' H' ⟨rfl, Z2, h2, rfl, hZ2, hT⟩))
  | ((obtain HL2 : LI p m (SL.r f a.toNat) (wrC f e) Y g (sn ++ [i]) (getS Z (SL.r f a.toNat)).length Z2 h2 := HL.step hi hn hZ2 hT (fun z hs hc => by rw [ho] at hc; exact wr_s hs hc) (fun hc => by rw [ho]; exact wr_n hc)); have hB2 := hZ2; ((with_reducible refine a1j ?_); refine a1w (⟨((sn ++ [i], (getS Z (SL.r f a.toNat)).length), (Z2, h2)), HL2⟩) (gk3i (j := 2) [] (hB _ _ _ _ hy hZ2) ?_ ?_ ?_ ?_ ?_ ?_ ?_) ?_; (iterate 7 (focus (first | rfl | (simp [LPXB, *, SIMB, hdN, injB, fB, a2e, a1u, a2d, hdN, a1i, a0w]; done)))); (focus (dsimp only; simp only [List.length_append, List.length_singleton]; omega))))
  | ((with_reducible refine lfH ?_); refine a7d (j := 2) (hB _ _ _ _ hy hZ) rfl ⟨rfl, Z, h, rfl, hZ, HL.fin (d2y HL hz)⟩ trivial)
  | (with_reducible refine a5n ?_)
  | (with_reducible refine a7z ?_)
  | with_reducible first | refine a0p (id := 3) 13 a0k (by kernel_rfl) fun K hK => ?_ | refine stp ?_
  | (with_reducible refine stpK ?_; intro K hK)
  | (with_reducible refine stpC ?_; intro T E hT hE)
  | (with_reducible refine stp2 ?_ ?_ <;> intro h)
  | with_reducible first | refine a0q rfl ?_ | refine a0t rfl (Nat.le_of_ble_eq_true rfl) a0s ?_ | refine a0t rfl (Nat.le_of_ble_eq_true rfl) (a0r (by simp [HPXB, ext, upd, *])) ?_ | refine a1v (by decide) (by kernel_rfl) ?_ | refine a0x (by decide) ?_
  | (with_reducible refine Kont.go hK ?_; clear hK K)
  | ((with_reducible first | refine KT.go hT ?_ | refine KT.go hE ?_); clear hT hE T E)
  | simp [*, -List.all_flatten, -List.all_eq_true, DEFM, fB, a2e, a1u, a2d, hdN, a1m, a0y, a0z, a2n, a2o, a2p, anR, a6m, a6l, a3r, a4g, a3k, MG_t, MG_f, fB4, fB7, fB8, rmvs]
theorem bsPF (j : Nat) (hj : j <= 20) (y : Pts) : Bs (fun _ => False) j noH (PF y) :=
 ⟨fun _ _ _ => rfl, fun k r hk => a3a y k r (by omega), d4p y fun _ _ h => (by cases h), fun _ h => h.elim⟩
theorem bsP0 (p : Pg) (j : Nat) (hj : j <= 20) : BsP p j noH := fun y y' hy hy' =>
 ⟨fun _ _ _ => rfl, fun k r hk => a3a y' k r (by omega), d4p y' fun _ _ h => (by cases h), fun l hl hn => by
  have hl : HP [] noH (PF y) l ≠ none := hl
  rw [a3d] at hn
  refine hl (a4w.2 ⟨?_, rfl⟩)
  cases e : PF y l with
  | none => rfl
  | some o => exact absurd hn.1 (d5h hy hy' l (by simp [e]))⟩
def f5q (L : List (FM.Loc × FO)) : Bool := L.all fun p => match p.2 with | .dead => false | _ => true
theorem BsC.of {L : List (FM.Loc × FO)} (hl : hdN 3 (L.map Prod.fst) = true) (ho : ninL (inH (HP L noH noH)) L) (hd : f5q L = true) : BsC (updL L noH) := by
 have hout : ∀ k r, k ≠ 3 -> updL L noH (k :: r) = none := fun k r hk => by
  rw [a8z fun p hp e => ?_]
  . rfl
  . obtain ⟨q, hq⟩ := a8p hl p.1 (List.mem_map.2 ⟨p, hp, rfl⟩)
    rw [e] at hq
    simp only [List.cons.injEq] at hq
    exact hk hq.1
 refine ⟨fun k r hk => hout k r (by omega), fun r => hout 91 r (by decide), fun r => hout 92 r (by decide), fun r => hout 93 r (by decide), fun l o h => ?_, fun l o h => ?_⟩
 . rcases b0y h with h | ⟨_, h⟩
   . exact a5p (fun q hq => hq) (b6b ho _ h)
   . cases h
 . rcases b0y h with h | ⟨_, h⟩
   . have := List.all_eq_true.1 hd _ h
     rintro rfl
     simp at this
   . cases h
theorem d4m {p : Pg} (hp : VOk p) {Y : Pts} (hy : Gv.Form p Y) {i : Nat} (hi : i < p.funcs.length) (k : Nat) (hk : k <= p.funcs[i].code.length) : Gv.Form p (b3b p i p.funcs[i].code k Y) := ((d3l hp hi k hk).1 Y hy).1
theorem b8o {p : Pg} (hp : VOk p) {Y : Pts} (hy : Gv.Form p Y) (k : Nat) (hk : k <= p.funcs.length) : Gv.Form p (b1e p Y k) := ((c0q hp k hk).1 Y hy).1
theorem e7b {p : Pg} {i : Nat} {code : List Ins} {k : Nat} (h : k < code.length) (Y : Pts) : b3b p i code (k + 1) Y = a3l p i k code[k] (b3b p i code k Y) := by simp only [b3b, List.getElem?_eq_getElem h]
theorem c1f (p : Pg) (i : Nat) (code : List Ins) (Y : Pts) : b3b p i code 0 Y = Y := id (by simp only [b3b])
theorem e4l {p : Pg} {k : Nat} (h : k < p.funcs.length) (Y : Pts) : b1e p Y (k + 1) = b3b p k p.funcs[k].code p.funcs[k].code.length (b1e p Y k) := by simp only [b1e, List.getElem?_eq_getElem h]
theorem c0b (p : Pg) (Y : Pts) : b1e p Y 0 = Y := id (by simp only [b1e])
end Go.He
