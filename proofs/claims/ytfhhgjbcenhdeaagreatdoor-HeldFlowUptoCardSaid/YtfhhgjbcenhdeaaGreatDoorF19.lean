/- Parts of the proof. -/
import Derived.Test.YtfhhgjbcenhdeaaGreatDoorF18
set_option linter.unusedSimpArgs false
set_option linter.unusedVariables false
namespace Go.Je
open Go Go.FM Go.Gv Go.Proofs
set_option maxRecDepth 100000
set_option maxHeartbeats 40000000
theorem d9a {f : Nat} {code : List Ins} {j : Nat} {s : Int × Int} (h : s ∈ sitC f code j) (hj : j <= code.length) : ∃ k, k < code.length /\ s = ((f : Int), (k : Int)) := by
 simp only [sitC, List.mem_map, List.mem_filter, List.mem_range] at h
 obtain ⟨k, ⟨h1, _⟩, rfl⟩ := h
 exact ⟨k, by omega, rfl⟩
theorem d2g {fs : List FnD} : ∀ (i : Nat), i <= fs.length -> ∀ (k : Nat) (h : k < (sitP fs i).length), 1 <= k -> ∃ (f : Nat) (hf : f < fs.length) (j : Nat), j < fs[f].code.length /\ (sitP fs i)[k] = ((f : Int), (j : Int))
 | 0, _, k, h, h1 => by simp [sitP] at h; omega
 | i + 1, hi, k, h, h1 => by
   have hif : i < fs.length := by omega
   have e := c6f hif
   by_cases hk : k < (sitP fs i).length
   . obtain ⟨f, hf, j, hj, e'⟩ := d2g i (by omega) k hk h1
     exact ⟨f, hf, j, hj, by simp only [e, List.getElem_append_left hk, e']⟩
   . have h' : k < (sitP fs i ++ sitC i fs[i].code fs[i].code.length).length := by rw [<- e]; exact h
     have h2 : (sitP fs (i + 1))[k] = (sitC i fs[i].code fs[i].code.length)[k - (sitP fs i).length]'(by rw [List.length_append] at h'; omega) := by
      simp only [e]; rw [List.getElem_append_right (by omega)]
     obtain ⟨j, hj, e'⟩ := d9a (gm_ (l := sitC i fs[i].code fs[i].code.length) (n := k - (sitP fs i).length) (by rw [List.length_append] at h'; omega)) (nr_ _)
     exact ⟨i, hif, j, hj, by rw [h2, e']⟩
theorem e5u (p : Pg) {o : Int} (h0 : 0 < o) (h1 : o < ((a0l p).length : Int)) : ∃ (h : o.toNat < (a0l p).length) (f : Nat) (hf : f < p.funcs.length) (j : Nat) (hj : j < p.funcs[f].code.length), (a0l p)[o.toNat] = ((f : Int), (j : Int)) := by
 have h : o.toNat < (a0l p).length := by omega
 obtain ⟨f, hf, j, hj, e⟩ := d2g (fs := p.funcs) p.funcs.length (nr_ _) o.toNat h (by omega)
 exact ⟨h, f, hf, j, hj, e⟩
theorem f3n {p : Pg} {x : Pts} {o : Int} (h0 : ¬ 0 < o) : a5w p x o = oneP p.funcs p.funcs.length := by
 simp [a5w, h0, ins0]
theorem b9v {fs : List FnD} {i : Nat} (h : i < fs.length) (e : fs[i].params = 1) : oneP fs (i + 1) = oneP fs i ++ [(i : Int)] := by
 unfold oneP
 rw [List.range_succ, fA_, List.map_append]
 have : a5v fs (i : Int) = 1 := by rw [a8d _ _ (by simpa using h)]; simpa using e
 simp [this]
theorem c3x {fs : List FnD} {i : Nat} (h : i < fs.length) (e : ¬ fs[i].params = 1) : oneP fs (i + 1) = oneP fs i := by
 unfold oneP
 rw [List.range_succ, fA_, List.map_append]
 have : ¬ a5v fs (i : Int) = 1 := by rw [a8d _ _ (by simpa using h)]; simpa using e
 simp [this]
theorem d3m (fs : List FnD) : oneP fs 0 = [] := rfl
theorem b2h (l : List Int) : nfs (ints l).flatten = true := by
 induction l with
 | nil => rfl
 | cons a l ih => simpa [ints, a2f, nfs, nf] using ih
theorem b4s (fs : List FnD) (i : Nat) : (oneP fs i).length <= i := by
 unfold oneP
 rw [List.length_map]
 exact Nat.le_trans (List.length_filter_le _ _) (by simp)
def PR (R : List (List (List Int))) : Heap := fun l => match l with
 | [92, f] => (R[f]?).map fun r => .cells 36 1 (lays r)
 | _ => none
theorem f9u (R : List (List (List Int))) (k : Nat) (r : List Nat) (hk : k <= 91) : PR R (k :: r) = none := by
 unfold PR
 split
 . rename_i h; simp at h; omega
 . rfl
structure BsC (B : Heap) : Prop where
 fr : ∀ k r, k <= 2 -> B (k :: r) = none
 f1 : ∀ r, B (91 :: r) = none
 f2 : ∀ r, B (92 :: r) = none
 f3 : ∀ r, B (93 :: r) = none
 clo : Clo B
 nd : ∀ l o, B l = some o -> o ≠ .dead
theorem BsC.bs {B : Heap} (h : BsC B) (R : List (List (List Int))) : Bs (inH (HP [] B noH)) 2 B (PR R) := by
 refine ⟨h.fr, fun k r hk => f9u R k r (by omega), fun l o hl => ?_, fun l hl => ?_⟩
 . rw [a3y] at hl
   cases e : PR R l with
   | some o' =>
     rw [e] at hl
     obtain rfl := sI_ hl
     unfold PR at e
     split at e
     . rw [oM_] at e
       obtain ⟨r, _, rfl⟩ := e
       have : ∀ (U : FM.Loc -> Prop) (L : List (List Int)), a2u U (lays L) := by
        intro U L
        induction L with
        | nil => trivial
        | cons a L ih => exact ⟨⟨a0a a, trivial⟩, ih⟩
       exact this _ _
     . cases e
   | none =>
     rw [e] at hl
     refine a3k (fun q hq => ?_) (h.clo l o hl)
     rw [a3y]
     cases PR R q <;> simp [hq]
 . have hl : HP [] B noH l ≠ none := hl
   have : HP [] B noH l = B l := rfl
   rw [this] at hl
   rw [a3y]
   cases PR R l <;> simp [hl]
theorem BsC.live {B : Heap} (h : BsC B) (R : List (List (List Int))) : ∀ l, inH (HP [] B noH) l -> ∃ o, ext B (PR R) l = some o /\ o ≠ .dead := fun l hl => by
 have hl : HP [] B noH l ≠ none := hl
 obtain ⟨o, ho⟩ := Option.ne_none_iff_exists'.1 hl
 have ho : B l = some o := ho
 have h0 : PR R l = none := by
  cases e : PR R l with
  | none => rfl
  | some o' =>
    unfold PR at e
    split at e
    . rename_i f; rw [h.f2] at ho; cases ho
    . cases e
 exact ⟨o, by rw [b6w h0]; exact ho, h.nd l o ho⟩
theorem a8c (β : FM.Loc -> Option FM.Loc) (xs ys : List (List FV)) : renss β (xs ++ ys) = renss β xs ++ renss β ys := by
 induction xs with
 | nil => rfl
 | cons x xs ih => simp [renss, ih]
theorem a8i (β : FM.Loc -> Option FM.Loc) (U : FM.Loc -> Prop) (xs ys : List (List FV)) : a6v β U (xs ++ ys) ↔ a6v β U xs /\ a6v β U ys := by
 induction xs with
 | nil => simp [a6v]
 | cons x xs ih => simp [a6v, ih, and_assoc]
theorem d1g {α : Type} {R : List α} {i : Nat} (h : i < R.length) : R.take (i + 1) = R.take i ++ [R[i]] := by rw [List.take_add_one, gE_ h]; rfl
theorem gk5S {c : Cfg} {σ : Type} {vs0 vs : List FV} {tm0 tm : Asg} {L0 L : List (FM.Loc × FO)} {B A : Heap} {ix : List Nat} {sv : σ -> List (Nat × FV)} {kt : List Nat} {st : σ -> Asg} {dl : List FM.Loc} {sh : σ -> List (FM.Loc × FO)} {fA : σ -> Heap} {x : σ} (b : List (FM.Loc × Option FM.Loc)) (hA : fA x = A) (hcl : Clo (ext B A)) (hc : ∀ l, c.L l -> ext B A l ≠ none)
 (hN : ∀ n ∈ (a5k (sh x) (delL dl L0)).map Prod.fst ++ b.map Prod.fst ++ b.filterMap Prod.snd, ext B A n = none) (hl : ∀ p ∈ L, ext B A p.1 = none) (hinj : injB (bk b) ((a5k (sh x) (delL dl L0)).map Prod.fst) = true)
 (hv : a9d (bk b) (inH (HP (a5k (sh x) (delL dl L0)) B A)) (setV (sv x) vs0) vs) (ht : simT (bk b) (inH (HP (a5k (sh x) (delL dl L0)) B A)) vs.length tm (st x ++ a8g kt tm0))
 (hH : simH (bk b) (inH (HP (a5k (sh x) (delL dl L0)) B A)) (HP L B A) (a5k (sh x) (delL dl L0))) : Gk c (lpS vs0 tm0 L0 B sv kt st dl sh fA x) ⟨vs, tm, HP L B A, ix⟩ :=
 gk5 (L1 := a5k (sh x) (delL dl L0)) b (by rw [hA]) hinj hN hl hcl hc hv ht hH
theorem f3f {c : Cfg} {vs : List FV} {tm : Asg} {L : List (FM.Loc × FO)} {B A : Heap} {ix : List Nat} (l0 : FM.Loc) (T0 : TypeId) (sz0 : Nat) (xs0 : List (List FV)) (hcl : Clo (ext B A)) (hnd : ∀ l, c.L l -> ∃ o, ext B A l = some o /\ o ≠ .dead) (hfr : ∀ n ∈ l0 :: L.map Prod.fst, ext B A n = none)
 (hl : HP L B A l0 = some (.cells T0 sz0 xs0)) (hn : nlss xs0 = true) : Gk c (Fs.mk (fzs l0 sz0 xs0 vs) (fzT l0 sz0 xs0 tm) (HP (fzL l0 sz0 xs0 L) B A) ix) ⟨vs, tm, HP L B A, ix⟩ := by
 have h0 := hfr l0 (by simp)
 have hL : ∀ p ∈ L, ext B A p.1 = none := fun p hp => hfr p.1 (by simp only [List.mem_cons, List.mem_map]; exact .inr ⟨p, hp, rfl⟩)
 rw [<- d5n hcl h0 L hL]
 refine e3q l0 T0 sz0 xs0 (fun l hc => ?_) hl hn
 obtain ⟨o, ho, hd⟩ := hnd l hc
 refine ⟨fun e => (by rw [e, h0] at ho; cases ho), o, ?_, hd⟩
 rw [show HP L B A = ext (hpL L) (ext B A) from b4k hL]
 exact a7w ho
theorem bk_n : bk [] = fun x => some x := rfl
theorem bk_c (k : FM.Loc) (o : Option FM.Loc) (r : List (FM.Loc × Option FM.Loc)) : bk ((k, o) :: r) = fun x => if x = k then o else bk r x := rfl
section
variable {P : Program} {c : Cfg} {ops : Array Oper} {n k : Nat} {K : Fs -> Prop} {H0 Hn : Heap} {rs : List FM.Loc} {o : Oper} {rest : List Oper} {s : Fs} {As : List Heap} {f : FuncId} {A : List FV} {r : FV}
theorem hfc0 (hfc : ∀ H2, HSub Hn H2 -> FC P c.G f A H2 r H2) (h : HNx P c ops n K H0 rs k o rest s As (some (r, noH))) : HCl P c ops n K H0 rs k o rest s As Hn f true A :=
 ⟨rfl, r, noH, fun H2 h1 _ => by rw [a1l]; exact hfc H2 h1, h⟩
theorem hfc1 (l0 : FM.Loc) (ob : FO) (hfc : ∀ H2, HSub Hn H2 -> H2 l0 = none -> FC P c.G f A H2 r (upd H2 l0 ob)) (h : HNx P c ops n K H0 rs k o rest s As (some (r, upd noH l0 ob))) : HCl P c ops n K H0 rs k o rest s As Hn f true A :=
 ⟨rfl, r, upd noH l0 ob, fun H2 h1 h2 => by rw [e1p]; exact hfc H2 h1 (h2 l0 (by simp [upd])), h⟩
end
theorem e4j {p : Pg} {y y' : Pts} (hy : Gv.Form p y) (hy' : Gv.Form p y') (l : FM.Loc) (h : PF y l ≠ none) : PF y' l ≠ none := by
 unfold PF at h ⊢
 split at h
 . simp
 . rename_i f
   have : f < y.regs.length := by
    rcases Nat.lt_or_ge f y.regs.length with h' | h'
    . exact h'
    . rw [gn_ h'] at h; exact absurd rfl h
   rw [gE_ (by rw [hy'.rn, <- hy.rn]; exact this)]; simp
 . simp
 . exact absurd rfl h
theorem BsP.call {p : Pg} {i j : Nat} {B : Heap} (hB : BsP p j B) (hi : i < j) {L : List (FM.Loc × FO)} {Y : Pts} (hy : Gv.Form p Y) (hl : hdN j (L.map Prod.fst) = true) (ho : ninL (inH (HP L B (PF Y))) L) : BsP p i (updL L B) := fun y y' h h' => by
 have e : ∀ l, inH (HP L B (PF Y)) l -> inH (HP L B (PF y')) l := fun l hl' => by
  intro hn
  refine hl' ?_
  rw [a3t] at hn ⊢
  refine ⟨?_, hn.2⟩
  cases e : PF Y l with
  | none => rfl
  | some o => exact absurd hn.1 (e4j hy h' l (by simp [e]))
 have ho' : ninL (fun l => HP L B (PF y') l ≠ none) L := by
  have key : ∀ (L' : List (FM.Loc × FO)), ninL (inH (HP L B (PF Y))) L' -> ninL (fun l => HP L B (PF y') l ≠ none) L' := by
   intro L'
   induction L' with
   | nil => exact fun h => h
   | cons q L' ih => exact fun h => ⟨a3k e h.1, ih h.2⟩
  exact key L ho
 exact Bs.call (L := L) (B := B) (A := PF y) i (hB y y' h h') hi hl ho' fun l hl' => e4j h h' l hl'
section
variable {P : Program} {c : Cfg} {ops : Array Oper} {K : Fs -> Prop} {o : Oper} {rest : List Oper} {s : Fs}
theorem a7a {f : FuncId} {A : List FV} {r : FV} {H' : Heap} {L : List (FM.Loc × FO)} {B Af : Heap} (hs : s.H = HP L B Af) (hfc : FC P c.G f A (HP [] (updL L B) Af) r H') (h : StK P c ops rest K (putD c o r { s with H := H' })) : b0z P c ops o rest K s f true A :=
 ⟨rfl, r, H', by rw [hs]; exact hfc, h⟩
end
theorem e3d {p : Pg} {f : FnD} {n : Ins} {v : Int} (h : opR p f n 99 v = true) : v < f.regs /\ (n.b = 0 \/ 0 <= v) := by
 simp [opR] at h
 exact ⟨h.1.2, h.2⟩
section
variable {P : Program} {c : Cfg} {ops : Array Oper} {o : Oper} {rest : List Oper} {K Φ : Fs -> Prop} {s : Fs} {f : FuncId} {b : Bool} {A : List FV}
theorem cgH (h : b0z P c ops o rest K s f b A) : b0z P c ops o rest K s f b A := h
theorem mdH {x : Option (FuncId × List FV)} (h : MDo P c ops o rest Φ s x) : MDo P c ops o rest Φ s x := h
theorem wlH {l : List Oper} (h : WL P c ops l Φ s) : WL P c ops l Φ s := h
theorem lfH {H H1 : Heap} {Ψ : FV -> Heap -> Prop} {x : Option (List FV)} (h : LFin H Ψ H1 x) : LFin H Ψ H1 x := h
end
theorem f6b {B A : Heap} {l : FM.Loc} {ks : List Int} (o : Int) (hB : Bs (inH (HP [] B A)) 0 B A) (hl : HP [] B A l = some (mapO ks)) : FC Tryz.prog Gl 94 [.mp l, .int .i64 o] (HP [] B A) (.bool (decide (o ∈ ks))) (HP [] B A) := by
 have hlk := e0e hl o
 have fA : ∀ r, A (0 :: r) = none := fun r => hB.fa 0 r (by decide)
 have fB : ∀ r, B (0 :: r) = none := fun r => hB.fb 0 r (by decide)
 refine a5n (res := [.tmp 4]) 7 14 [] (fun d ix => 0 :: d :: ix) (fn := Tryz.f94) (by kernel_rfl) (by rfl) (by rfl) (by rfl) (by simp) (by decide) ?_
 repeat' first
  | ((with_reducible refine c2j (j := 0) hB ?_ ?_ ?_ ?_); (iterate 2 (focus rfl)); (focus (first | rfl | (simp [*]; done))); focus (first | trivial | (simp [nin, nins, a3n, inH, HPXB]; done)))
  | with_reducible first | refine stp ?_ | refine stpK ?_; intro K hK | refine stpC ?_; intro T E hT hE | refine stp2 ?_ ?_ <;> intro h | refine a0g rfl ?_ | refine a0j rfl (lbR rfl) a0i ?_ | refine a0j rfl (lbR rfl) (a0h (by simp [HPXB, ext, upd, *])) ?_ | refine a1g (by decide) (by kernel_rfl) ?_ | refine a0o (by decide) ?_ | refine Kont.go hK ?_; clear hK K | refine KT.go hT ?_; clear hT hE T E | refine KT.go hE ?_; clear hT hE T E
  | simp [*, -List.all_flatten, -List.all_eq_true, DEFM, fA, fB]
theorem d8n {H : Heap} (o : Int) (h0 : H [3, 95] = none) : FC Tryz.prog Gl 174 [.int .i64 o] H (.mp [3, 95]) (upd H [3, 95] (mapO [o])) := by
 have e0 : (fun d ix => if d = 3 then [3, 95] else 0 :: d :: ix : Nat -> List Nat -> FM.Loc) 3 [] = [3, 95] := rfl
 refine b4d (res := [.tmp 2]) 3 7 [] (fun d ix => if d = 3 then [3, 95] else 0 :: d :: ix) (fn := Tryz.f174) (by kernel_rfl) (by rfl) (by rfl) (by rfl) (by simp) (by decide) ?_
 repeat' first
  | with_reducible first | refine e3j ?_ | refine e3k ?_ | refine stp ?_ | refine stpK ?_; intro K hK | refine stpC ?_; intro T E hT hE | refine stp2 ?_ ?_ <;> intro h | refine a0g rfl ?_ | refine a0j rfl (lbR rfl) a0i ?_ | refine a0j rfl (lbR rfl) (a0h (by simp [HPXB, ext, upd, *])) ?_ | refine a1g (by decide) (by kernel_rfl) ?_ | refine a0o (by decide) ?_ | refine Kont.go hK ?_; clear hK K | refine KT.go hT ?_; clear hT hE T E | refine KT.go hE ?_; clear hT hE T E
  | simp [*, -List.all_flatten, -List.all_eq_true, DEFB, a8a, c0u, List.nil_append, KFin]
 all_goals (funext k; simp only [upd]; split <;> rfl)
theorem b6v {H : Heap} {l k : FM.Loc} {since : Nat} {sn : List Nat} {i : Nat} {ks : List Int} (hi : i < ks.length) (h1 : H l = some (.iter (.mp k) since (sn ++ [i]) ks.length)) (h2 : H k = some (mapO ks)) : b3x H (.ptr l 0 0 0) = some (.tup [.int .i64 ks[i], .agg []]) := by
 simp only [b3x, h1, h2, mapO, if_true, List.getLast?_append, List.getLast?_singleton, Option.some_or, d0f hi]
theorem b5u {H : Heap} {l nm : FM.Loc} {ks : List Int} (h : H l = some (mapO ks)) (hn : H nm = none) : b1t Tryz.prog H nm 141 (.mp l) = some ([(nm, .iter (.mp l) ks.length [] ks.length)], .ptr nm 0 0 0) := by
 simp [b1t, b6q, hn, h, mapO]
theorem a2n {H : Heap} {l : FM.Loc} {o : FO} (h : H l = some o) : inH H l := fun e => by rw [h] at e; cases e
theorem a0p {l : FM.Loc} {o : FO} {L : List (FM.Loc × FO)} {B A : Heap} : inH (HP ((l, o) :: L) B A) l := fun h => by
 have := (a3t.1 h).2
 simp [updL, upd] at this
theorem a0k {l k : FM.Loc} {o : FO} {L : List (FM.Loc × FO)} {B A : Heap} (h : inH (HP L B A) l) : inH (HP ((k, o) :: L) B A) l := fun e => by
 obtain ⟨h1, h2⟩ := a3t.1 e
 simp only [updL, upd] at h2
 split at h2
 . cases h2
 . exact h (a3t.2 ⟨h1, h2⟩)
theorem c7o {L : List (FM.Loc × FO)} {B : Heap} {p : Pg} {y : Pts} {b : Bool} {t : SL} (ht : t.ok y) : inH (HP L B (MF p y b)) t.loc := a2n (a5u ht)
theorem a6w {L : List (FM.Loc × FO)} {B : Heap} {p : Pg} {y : Pts} {b : Bool} : inH (HP L B (MF p y b)) [88] := a2n e2l
theorem f5m {p : Pg} {y : Pts} {b b' : Bool} {B : Heap} {lf : FM.Loc} {ks : List Int} {j : Nat} (hB : BsM p j B) (hj : j <= 20) (hy : Shp p y) (h : HP [] B (MF p y b) lf = some (mapO ks)) {L : List (FM.Loc × FO)} (hL : hdN j (L.map Prod.fst) = true) : HP L B (MF p y b') lf = some (mapO ks) := by
 have hbb := hB y b y b hy hy
 have hsame : lf ≠ [88] -> MF p y b' lf = MF p y b lf := fun hne => by
  unfold MF
  split <;> first | rfl | exact absurd rfl hne
 have hne : lf ≠ [88] := fun e => by subst e; rw [e2l] at h; cases h
 have h := b6g (L := L) hbb.fb hL lf (mapO ks) h
 unfold HP at h ⊢
 rw [a3y] at h ⊢
 rw [hsame hne]
 exact h
theorem d1j {p : Pg} {j : Nat} {B : Heap} {L : List (FM.Loc × FO)} {y : Pts} {b : Bool} {t : SL} (o : Int) (hB : BsM p j B) (h0 : 0 < j) (hy : Shp p y) (ht : t.ok y) (hl : hdN j (L.map Prod.fst) = true) (hn : ninL (inH (HP L B (MF p y b))) L) : FC Tryz.prog Gl 94 [.mp t.loc, .int .i64 o] (HP [] (updL L B) (MF p y b)) (.bool (decide (o ∈ getS y t))) (HP [] (updL L B) (MF p y b)) :=
 f6b o ((hB.call 0 h0 hy hl hn) y b y b hy hy) (a5u ht)
theorem in_B {L : List (FM.Loc × FO)} {B A : Heap} {l : FM.Loc} (h : B l ≠ none) : inH (HP L B A) l := fun e => by
 have := (a3t.1 e).2
 induction L with
 | nil => exact h this
 | cons q r ih =>
   obtain ⟨k, o⟩ := q
   simp only [updL, upd] at this
   split at this
   . cases this
   . exact ih (a3t.2 ⟨(a3t.1 e).1, this⟩) this
def OutT (p : Pg) (m : Bool) (B : Heap) (C : Pts -> Prop) (Y : Pts) (g : Bool) (r : FV) (H' : Heap) : Prop := r = .tup [] /\ ∃ Y' g', H' = HP [] B (MF p Y' g') /\ Shp p Y' /\ TR m C C Y g Y' g'
def CT (p : Pg) (m : Bool) (f : FuncId) : Prop := ∀ (B : Heap) (y : Pts) (b : Bool) (t : SL) (lf : FM.Loc) (ks : List Int), Shp p y -> t.ok y -> BsM p 1 B -> okA (a0l p).length ks -> HP [] B (MF p y b) lf = some (mapO ks) ->
 FCr Tryz.prog Gl f [.mp t.loc, .mp lf, .ptr [88] 1 0 0] (HP [] B (MF p y b)) (OutT p m B (inS t ks) y b)
theorem d4u {p : Pg} {m : Bool} {t : SL} {C : Pts -> Int -> Prop} {Y Z : Pts} {g h : Bool} {sn : List Nat} {lst : Nat} (H : LI p m t C Y g sn lst Z h) (hz : ∀ e ∈ ents (getS Z t), e.2.2 < (getS Y t).length -> e.2.2 ∈ sn) : ∀ i, i < (getS Y t).length -> i ∈ sn := fun i hi => by
 have h1 : i < (getS Z t).length := Nat.lt_of_lt_of_le hi (H.tr.pre.pf t).length_le
 exact hz _ (b0l.2 ⟨i, h1, rfl⟩) hi
theorem c5f {p : Pg} {m : Bool} {t : SL} {C : Pts -> Int -> Prop} {Y Z : Pts} {g h : Bool} {sn : List Nat} {lst : Nat} (H : LI p m t C Y g sn lst Z h) : sn = [] \/ ∃ e ∈ ents (getS Z t), e.2.2 < lst := by
 cases sn with
 | nil => exact .inl rfl
 | cons i r => exact .inr ⟨_, b0l.2 ⟨i, H.lt' i (by simp), rfl⟩, H.lt i (by simp)⟩
structure BxC (B : Heap) (f nr : Nat) (fk : FuncId) : Prop where
 r : B [3, 8] = some (.cells 136 1 [[.sl [83, f] 1 0 nr]])
 k : B [3, 7] = some (.cells 143 1 [[.clo fk [] [.ptr [88] 1 0 0]]])
 a : B [3, 4] = some (.cells 131 1 [[.ptr [81] 8 0 0]])
section
variable {P : Program} {c : Cfg} {s : Fs} {ops : Array Oper} {o : Oper} {post : List Oper} {Φ : Fs -> Prop}
theorem a4e (h : Φ s) : WL P c ops [] Φ s := fun X a w Q hR hQ => hQ s a w h hR
theorem a2l {f : FuncId} {A : List FV} {Ψ : FV -> Heap -> Prop} {L : List (FM.Loc × FO)} {B Af : Heap} (hf : fnOk P f = true) (hN : ∀ d, o.dst = some d -> d < c.N) (hs : s.H = HP L B Af) (hfc : FCr P c.G f A (HP [] (updL L B) Af) Ψ) (h : ∀ r H', Ψ r H' -> StL P c ops post Φ (putD c o r { s with H := H' })) : MDo P c ops o post Φ s (some (f, A)) :=
 d3v hf hN (by rw [hs]; exact hfc) h
end
theorem b4g {p : Pg} {m : Bool} {fk : FuncId} {j : Nat} {L : List (FM.Loc × FO)} {B : Heap} {y : Pts} {b : Bool} (t : SL) (lf : FM.Loc) {ks : List Int} (hCT : CT p m fk) (hB : BsM p j B) (h1 : 1 < j) (hy : Shp p y) (ht : t.ok y) (hk : okA (a0l p).length ks) (hl : HP L B (MF p y b) lf = some (mapO ks)) (hL : hdN j (L.map Prod.fst) = true) (hn : ninL (inH (HP L B (MF p y b))) L) :
 FCr Tryz.prog Gl fk [.mp t.loc, .mp lf, .ptr [88] 1 0 0] (HP [] (updL L B) (MF p y b)) (OutT p m (updL L B) (inS t ks) y b) := hCT _ y b t lf ks hy ht (hB.call 1 h1 hy hL hn) hk hl
theorem rd_s {f : Nat} {e o : Int} {Z z : Pts} (hs : sub Z z) (hc : rdC f e z o) : inS (.r f e.toNat) (getS Z (.c o.toNat)) z := fun q hq => by
 rw [a6p]
 exact hc q (by rw [<- b6k]; exact hs.2 _ q hq)
theorem rd_n {f : Nat} {e o : Int} {Z : Pts} (hc : inS (.r f e.toNat) (getS Z (.c o.toNat)) Z) : rdC f e Z o := fun q hq => by
 have := hc q (by rw [b6k]; exact hq)
 rwa [a6p] at this
theorem wr_s {f : Nat} {e o : Int} {Z z : Pts} (hs : sub Z z) (hc : wrC f e z o) : inS (.c o.toNat) (getS Z (.r f e.toNat)) z := fun q hq => by
 rw [b6k]
 exact hc q (by rw [<- a6p]; exact hs.2 _ q hq)
theorem wr_n {f : Nat} {e o : Int} {Z : Pts} (hc : inS (.c o.toNat) (getS Z (.r f e.toNat)) Z) : wrC f e Z o := fun q hq => by
 have := hc q (by rw [a6p]; exact hq)
 rwa [b6k] at this
theorem f6e {p : Pg} {m : Bool} {fk : FuncId} (hCT : CT p m fk) (hfk : fnOk Tryz.prog fk = true) {B : Heap} {Y : Pts} {g : Bool} {f : Nat} {hf : f < p.funcs.length} (hy : Shp p Y) (hB : BsM p 2 B) {nr : Nat} (hnr : p.funcs[f].regs = (nr : Int)) (hX : BxC B f nr fk) {a e : Int} (ha : isR p.funcs[f] a) (he : isR p.funcs[f] e) : FCr Tryz.prog Gl 172 [.int .i64 e, .int .i64 a, .ptr [3, 8] 1 0 0, .ptr [3, 7] 1 0 0, .ptr [3, 4] 1 0 0] (HP [] B (MF p Y g)) (OutT p m B (fun z => ∀ o ∈ getS z (SL.r f a.toNat), rdC f e z o) Y g) := by
 have fB : ∀ r, B (2 :: r) = none := fun r => (hB Y g Y g hy hy).fb 2 r (by decide)
 obtain ⟨fB8, fB7, fB4⟩ := hX
 obtain ⟨y1, y2⟩ := hy.at hf
 rw [hnr, tN_] at y2
 have y3 := hy.rn
 have y4 := hy.cn
 obtain ⟨a0, a1⟩ := id ha
 obtain ⟨e0, e1⟩ := id he
 have aN : a.toNat < nr := by omega
 have eN : e.toNat < nr := by omega
 have a2 : a < (nr : Int) := by omega
 have e2 : e < (nr : Int) := by omega
 have hYt := hy.rok hf ha
 have hrg : b1t Tryz.prog (HP [] B (MF p Y g)) [2, 12] 141 (.mp [85, f, a.toNat]) = some ([([2, 12], .iter (.mp [85, f, a.toNat]) (getS Y (.r f a.toNat)).length [] (getS Y (.r f a.toNat)).length)], .ptr [2, 12] 0 0 0) := b5u (a5u (L := []) (B := B) (p := p) (b := g) hYt) (by simp [a1k, a1i, a1v, fB])
 have hi1 : ∀ (L : List (FM.Loc × FO)) (Z : Pts) (h : Bool), Shp p Z -> inH (HP L B (MF p Z h)) [85, f, a.toNat] := fun L Z h hZ => c7o (hZ.rok hf ha)
 have hi2 : ∀ (L : List (FM.Loc × FO)) (A : Heap), inH (HP L B A) [3, 8] := fun L A => in_B (by rw [fB8]; simp)
 have hi3 : ∀ (L : List (FM.Loc × FO)) (A : Heap), inH (HP L B A) [3, 7] := fun L A => in_B (by rw [fB7]; simp)
 have hi4 : ∀ (L : List (FM.Loc × FO)) (A : Heap), inH (HP L B A) [3, 4] := fun L A => in_B (by rw [fB4]; simp)
 refine a3d (res := []) 8 30 [12] (fun d ix => 2 :: d :: ix) (fn := Tryz.f172) (by kernel_rfl) (by rfl) (by rfl) (by rfl) (by simp) (by decide) ?_
 repeat' first
  | with_reducible first | refine a1f (id := 1) fun K hK => ?_ | refine a1h (id := 3) [] 12 a0y (by kernel_rfl) fun K hK => ?_
  | ((with_reducible refine a1a ?_); refine a1q (σ := {x : (List Nat × Nat) × (Pts × Bool) // LI p m (SL.r f a.toNat) (rdC f e) Y g x.1.1 x.1.2 x.2.1 x.2.2}) (fun y => [(7, .undef)]) [12] (fun y => []) [] (fun y => [([2, 12], .iter (.mp [85, f, a.toNat]) (getS Y (SL.r f a.toNat)).length y.1.1.1 y.1.1.2)]) (fun y => MF p y.1.2.1 y.1.2.2) (fun y => (a0l p).length - y.1.1.1.length) ⟨(([], (getS Y (SL.r f a.toNat)).length), (Y, g)), LI.start hy⟩ (gk3i (j := 2) [] (hB _ _ _ _ hy hy) ?_ ?_ ?_ ?_ ?_ ?_ ?_) ?_; (iterate 7 (focus (first | rfl | (simp [LPXB, *, SIMB, hdN, injB, fB, a1k, a1d, a1i, hdN, a0p, a0k]; done)))); rintro ⟨⟨⟨sn, lst⟩, ⟨Z, h⟩⟩, HL⟩; simp only [lpS, LPXB]; (try dsimp only at HL); have hZ := HL.sh; have hZt := hZ.rok hf ha; have hZe := hZ.rok hf he; obtain ⟨z1, z2⟩ := hZ.at hf; rw [hnr, tN_] at z2; have z3 := hZ.rn; have z4 := hZ.cn)
  | ((with_reducible refine wlH ?_); refine c3j (l := [2, 12]) (k := [85, f, a.toNat]) (since := (getS Y (SL.r f a.toNat)).length) (last := lst) (clk := (getS Z (SL.r f a.toNat)).length) (seen := sn) (es := ents (getS Z (SL.r f a.toNat))) ?_ rfl rfl (lbR rfl) ?_ ?_ ?_ ?_ ?_ ?_; (focus (first | rfl | (simp [a2d]; done))); (focus (first | rfl | (simp [rv, Fs.get, lk]; done))); (focus (simp [HPXB, fB, a1k, a1d, a1i]; done)); (focus (exact a5u hZt)); (focus (exact c5f HL)); rotate_left; (rintro e' he' hn; obtain ⟨i, hi, rfl⟩ := b0l.1 he'; (try dsimp only at hn); have hlen := HL.len hi hn; have hen := b6v (H := HP [([2, 12], FO.iter (.mp [85, f, a.toNat]) (getS Y (SL.r f a.toNat)).length (sn ++ [i]) (getS Z (SL.r f a.toNat)).length)] B (MF p Z h)) (l := [2, 12]) (k := [85, f, a.toNat]) (since := (getS Y (SL.r f a.toNat)).length) (sn := sn) hi (by simp [HPXB, fB, a1k, a1d, a1i]) (a5u hZt); obtain ⟨o0, o1⟩ := (hZ.gets (SL.r f a.toNat)).2 _ (gm_ hi); have hgo : (getS Z (SL.r f a.toNat))[i] = (getS Z (SL.r f a.toNat))[i] := rfl; generalize ho : (getS Z (SL.r f a.toNat))[i] = o at hen o0 o1; have hoc := hZ.cok o0 o1; have hol : o.toNat < Z.cells.length := (by rw [z4]; omega); refine b3r ?_); rotate_right; intro hz; refine b3r ?_)
  | (with_reducible refine a3r ?_)
  | ((with_reducible refine mdH ?_); refine a2l hfk (fun d hd => ?_) rfl (b4g (SL.r f e.toNat) (SL.c o.toNat).loc hCT hB (by decide) hZ hZe (hZ.gets (SL.c o.toNat)) (a5u hoc) rfl ?_) ?_; (focus (cases hd; exact lbR rfl)); (focus (first | rfl | (simp [ninL, ninO, a2u, nins, nin, a0e, a0m, a0c, a0v, a0a, a0b, a1j, mapO, a1o, a0p, a0k, hdN, *]; done))); (rintro r' H' ⟨rfl, Z2, h2, rfl, hZ2, hT⟩))
  | ((obtain HL2 : LI p m (SL.r f a.toNat) (rdC f e) Y g (sn ++ [i]) (getS Z (SL.r f a.toNat)).length Z2 h2 := HL.step hi hn hZ2 hT (fun z hs hc => by rw [ho] at hc; exact rd_s hs hc) (fun hc => by rw [ho]; exact rd_n hc)); have hB2 := hZ2; ((with_reducible refine a0q ?_); refine a1b (⟨((sn ++ [i], (getS Z (SL.r f a.toNat)).length), (Z2, h2)), HL2⟩) (gk3i (j := 2) [] (hB _ _ _ _ hy hZ2) ?_ ?_ ?_ ?_ ?_ ?_ ?_) ?_; (iterate 7 (focus (first | rfl | (simp [LPXB, *, SIMB, hdN, injB, fB, a1k, a1d, a1i, hdN, a0p, a0k]; done)))); (focus (dsimp only; simp only [List.length_append, List.length_singleton]; omega))))
  | ((with_reducible refine lfH ?_); refine a6j (j := 2) (hB _ _ _ _ hy hZ) rfl ⟨rfl, Z, h, rfl, hZ, HL.fin (d4u HL hz)⟩ trivial)
  | with_reducible first | refine a4e ?_ | refine a6g ?_ | refine a2j (id := 3) 13 a0y (by kernel_rfl) fun K hK => ?_ | refine stp ?_ | refine stpK ?_; intro K hK | refine stpC ?_; intro T E hT hE | refine stp2 ?_ ?_ <;> intro h | refine a0g rfl ?_ | refine a0j rfl (lbR rfl) a0i ?_ | refine a0j rfl (lbR rfl) (a0h (by simp [HPXB, ext, upd, *])) ?_ | refine a1g (by decide) (by kernel_rfl) ?_ | refine a0o (by decide) ?_ | refine Kont.go hK ?_; clear hK K | refine KT.go hT ?_; clear hT hE T E | refine KT.go hE ?_; clear hT hE T E
  | simp [*, -List.all_flatten, -List.all_eq_true, DEFM, fB, a1k, a1d, a1i, hdN, a0u, a0r, a0s, a1y, a1z, a2a, anR, a5y, a5x, a2z, a3j, a2p, MG_t, MG_f, fB4, fB7, fB8, rmvs]
theorem f6d {p : Pg} {m : Bool} {fk : FuncId} (hCT : CT p m fk) (hfk : fnOk Tryz.prog fk = true) {B : Heap} {Y : Pts} {g : Bool} {f : Nat} {hf : f < p.funcs.length} (hy : Shp p Y) (hB : BsM p 2 B) {nr : Nat} (hnr : p.funcs[f].regs = (nr : Int)) (hX : BxC B f nr fk) {a e : Int} (ha : isR p.funcs[f] a) (he : isR p.funcs[f] e) : FCr Tryz.prog Gl 173 [.int .i64 a, .int .i64 e, .ptr [3, 8] 1 0 0, .ptr [3, 7] 1 0 0, .ptr [3, 4] 1 0 0] (HP [] B (MF p Y g)) (OutT p m B (fun z => ∀ o ∈ getS z (SL.r f a.toNat), wrC f e z o) Y g) := by
 have fB : ∀ r, B (2 :: r) = none := fun r => (hB Y g Y g hy hy).fb 2 r (by decide)
 obtain ⟨fB8, fB7, fB4⟩ := hX
 obtain ⟨y1, y2⟩ := hy.at hf
 rw [hnr, tN_] at y2
 have y3 := hy.rn
 have y4 := hy.cn
 obtain ⟨a0, a1⟩ := id ha
 obtain ⟨e0, e1⟩ := id he
 have aN : a.toNat < nr := by omega
 have eN : e.toNat < nr := by omega
 have a2 : a < (nr : Int) := by omega
 have e2 : e < (nr : Int) := by omega
 have hYt := hy.rok hf ha
 have hrg : b1t Tryz.prog (HP [] B (MF p Y g)) [2, 12] 141 (.mp [85, f, a.toNat]) = some ([([2, 12], .iter (.mp [85, f, a.toNat]) (getS Y (.r f a.toNat)).length [] (getS Y (.r f a.toNat)).length)], .ptr [2, 12] 0 0 0) := b5u (a5u (L := []) (B := B) (p := p) (b := g) hYt) (by simp [a1k, a1i, a1v, fB])
 have hi1 : ∀ (L : List (FM.Loc × FO)) (Z : Pts) (h : Bool), Shp p Z -> inH (HP L B (MF p Z h)) [85, f, a.toNat] := fun L Z h hZ => c7o (hZ.rok hf ha)
 have hi2 : ∀ (L : List (FM.Loc × FO)) (A : Heap), inH (HP L B A) [3, 8] := fun L A => in_B (by rw [fB8]; simp)
 have hi3 : ∀ (L : List (FM.Loc × FO)) (A : Heap), inH (HP L B A) [3, 7] := fun L A => in_B (by rw [fB7]; simp)
 have hi4 : ∀ (L : List (FM.Loc × FO)) (A : Heap), inH (HP L B A) [3, 4] := fun L A => in_B (by rw [fB4]; simp)
 refine a3d (res := []) 8 30 [12] (fun d ix => 2 :: d :: ix) (fn := Tryz.f173) (by kernel_rfl) (by rfl) (by rfl) (by rfl) (by simp) (by decide) ?_
 repeat' first
  | with_reducible first | refine a1f (id := 1) fun K hK => ?_ | refine a1h (id := 3) [] 12 a0y (by kernel_rfl) fun K hK => ?_
  | ((with_reducible refine a1a ?_); refine a1q (σ := {x : (List Nat × Nat) × (Pts × Bool) // LI p m (SL.r f a.toNat) (wrC f e) Y g x.1.1 x.1.2 x.2.1 x.2.2}) (fun y => [(7, .undef)]) [12] (fun y => []) [] (fun y => [([2, 12], .iter (.mp [85, f, a.toNat]) (getS Y (SL.r f a.toNat)).length y.1.1.1 y.1.1.2)]) (fun y => MF p y.1.2.1 y.1.2.2) (fun y => (a0l p).length - y.1.1.1.length) ⟨(([], (getS Y (SL.r f a.toNat)).length), (Y, g)), LI.start hy⟩ (gk3i (j := 2) [] (hB _ _ _ _ hy hy) ?_ ?_ ?_ ?_ ?_ ?_ ?_) ?_; (iterate 7 (focus (first | rfl | (simp [LPXB, *, SIMB, hdN, injB, fB, a1k, a1d, a1i, hdN, a0p, a0k]; done)))); rintro ⟨⟨⟨sn, lst⟩, ⟨Z, h⟩⟩, HL⟩; simp only [lpS, LPXB]; (try dsimp only at HL); have hZ := HL.sh; have hZt := hZ.rok hf ha; have hZe := hZ.rok hf he; obtain ⟨z1, z2⟩ := hZ.at hf; rw [hnr, tN_] at z2; have z3 := hZ.rn; have z4 := hZ.cn)
  | ((with_reducible refine wlH ?_); refine c3j (l := [2, 12]) (k := [85, f, a.toNat]) (since := (getS Y (SL.r f a.toNat)).length) (last := lst) (clk := (getS Z (SL.r f a.toNat)).length) (seen := sn) (es := ents (getS Z (SL.r f a.toNat))) ?_ rfl rfl (lbR rfl) ?_ ?_ ?_ ?_ ?_ ?_; (focus (first | rfl | (simp [a2d]; done))); (focus (first | rfl | (simp [rv, Fs.get, lk]; done))); (focus (simp [HPXB, fB, a1k, a1d, a1i]; done)); (focus (exact a5u hZt)); (focus (exact c5f HL)); rotate_left; (rintro e' he' hn; obtain ⟨i, hi, rfl⟩ := b0l.1 he'; (try dsimp only at hn); have hlen := HL.len hi hn; have hen := b6v (H := HP [([2, 12], FO.iter (.mp [85, f, a.toNat]) (getS Y (SL.r f a.toNat)).length (sn ++ [i]) (getS Z (SL.r f a.toNat)).length)] B (MF p Z h)) (l := [2, 12]) (k := [85, f, a.toNat]) (since := (getS Y (SL.r f a.toNat)).length) (sn := sn) hi (by simp [HPXB, fB, a1k, a1d, a1i]) (a5u hZt); obtain ⟨o0, o1⟩ := (hZ.gets (SL.r f a.toNat)).2 _ (gm_ hi); have hgo : (getS Z (SL.r f a.toNat))[i] = (getS Z (SL.r f a.toNat))[i] := rfl; generalize ho : (getS Z (SL.r f a.toNat))[i] = o at hen o0 o1; have hoc := hZ.cok o0 o1; have hol : o.toNat < Z.cells.length := (by rw [z4]; omega); refine b3r ?_); rotate_right; intro hz; refine b3r ?_)
  | (with_reducible refine a3r ?_)
  | ((with_reducible refine mdH ?_); refine a2l hfk (fun d hd => ?_) rfl (b4g (SL.c o.toNat) (SL.r f e.toNat).loc hCT hB (by decide) hZ hoc (hZ.gets (SL.r f e.toNat)) (a5u hZe) rfl ?_) ?_; (focus (cases hd; exact lbR rfl)); (focus (first | rfl | (simp [ninL, ninO, a2u, nins, nin, a0e, a0m, a0c, a0v, a0a, a0b, a1j, mapO, a1o, a0p, a0k, hdN, *]; done))); (rintro r' H' ⟨rfl, Z2, h2, rfl, hZ2, hT⟩))
  | ((obtain HL2 : LI p m (SL.r f a.toNat) (wrC f e) Y g (sn ++ [i]) (getS Z (SL.r f a.toNat)).length Z2 h2 := HL.step hi hn hZ2 hT (fun z hs hc => by rw [ho] at hc; exact wr_s hs hc) (fun hc => by rw [ho]; exact wr_n hc)); have hB2 := hZ2; ((with_reducible refine a0q ?_); refine a1b (⟨((sn ++ [i], (getS Z (SL.r f a.toNat)).length), (Z2, h2)), HL2⟩) (gk3i (j := 2) [] (hB _ _ _ _ hy hZ2) ?_ ?_ ?_ ?_ ?_ ?_ ?_) ?_; (iterate 7 (focus (first | rfl | (simp [LPXB, *, SIMB, hdN, injB, fB, a1k, a1d, a1i, hdN, a0p, a0k]; done)))); (focus (dsimp only; simp only [List.length_append, List.length_singleton]; omega))))
  | ((with_reducible refine lfH ?_); refine a6j (j := 2) (hB _ _ _ _ hy hZ) rfl ⟨rfl, Z, h, rfl, hZ, HL.fin (d4u HL hz)⟩ trivial)
  | with_reducible first | refine a4e ?_ | refine a6g ?_ | refine a2j (id := 3) 13 a0y (by kernel_rfl) fun K hK => ?_ | refine stp ?_ | refine stpK ?_; intro K hK | refine stpC ?_; intro T E hT hE | refine stp2 ?_ ?_ <;> intro h | refine a0g rfl ?_ | refine a0j rfl (lbR rfl) a0i ?_ | refine a0j rfl (lbR rfl) (a0h (by simp [HPXB, ext, upd, *])) ?_ | refine a1g (by decide) (by kernel_rfl) ?_ | refine a0o (by decide) ?_ | refine Kont.go hK ?_; clear hK K | refine KT.go hT ?_; clear hT hE T E | refine KT.go hE ?_; clear hT hE T E
  | simp [*, -List.all_flatten, -List.all_eq_true, DEFM, fB, a1k, a1d, a1i, hdN, a0u, a0r, a0s, a1y, a1z, a2a, anR, a5y, a5x, a2z, a3j, a2p, MG_t, MG_f, fB4, fB7, fB8, rmvs]
theorem e0y {p : Pg} (x : Pts) (o : Int) : (a5w p x o).length <= p.funcs.length + 1 := by
 unfold a5w
 generalize (if 0 < o then b7o p (x.sites.getD o.toNat (0, 0)) else ins0) = n
 dsimp only
 by_cases e : n.op = 23
 . rw [if_pos e]; simp
 . rw [if_neg e]
   by_cases e2 : n.op = 24 /\ wrR p x o = false
   . rw [if_pos e2]; simp
   . rw [if_neg e2]
     have := b4s p.funcs p.funcs.length; omega
def a3u (b : Bool) : List FV := [.bool b]
def a2h (L : List Bool) : List (List FV) := L.map a3u
theorem a0d (L : List Bool) : (a2h L).length = L.length := by simp [a2h]
theorem a4s {L : List Bool} {i : Nat} (h : i < (a2h L).length) : (a2h L)[i] = a3u (L[i]'(by rwa [a0d] at h)) := by simp [a2h]
theorem a3z {L : List Bool} {i : Nat} (h : i < L.length) : (a2h L)[i]? = some [.bool L[i]] := by simp [a2h, a3u, h]
theorem a3g (L : List Bool) (i : Nat) (b : Bool) (h : i < L.length) : (a2h L).modify i (fun r => FV.bool b :: r.tail) = a2h (L.set i b) := by
 refine List.ext_getElem (by simp [a2h]) fun j h1 h2 => ?_
 rw [List.getElem_modify]
 split
 . rename_i e
   subst e
   simp [a2h, a3u]
 . rename_i e
   simp [a2h, List.getElem_set_ne e]
theorem a0f (L : List Bool) : nlss (a2h L) = true := by
 induction L with
 | nil => rfl
 | cons r rs ih => simpa [a2h, nlss, nls, nl, a3u] using ih
theorem a4k (L : List Bool) : (a2h L).flatten.all FV.cellV = true := by
 induction L with
 | nil => rfl
 | cons r rs ih => simp [a2h, FV.cellV, a3u]
theorem a1s (n : Nat) (b : Bool) : List.replicate n [FV.bool b] = a2h (List.replicate n b) := by simp [a2h, a3u]
structure BsV (B : Heap) : Prop where
 fr : ∀ k r, k <= 1 -> B (k :: r) = none
 f62 : B [62] = none
 clo : Clo B
theorem BsV.c5 {B : Heap} (h : BsV B) : Clo (ext B noH) := by rw [a1l]; exact h.clo
theorem BsV.l5 {B : Heap} (_ : BsV B) : ∀ l, inH (HP [] B noH) l -> ext B noH l ≠ none := fun _ h => h
theorem b5y (U : FM.Loc -> Prop) : ∀ x : List Bool, a2u U (a2h x)
 | [] => trivial
 | _ :: x => ⟨⟨trivial, trivial⟩, b5y U x⟩
theorem f7n {B : Heap} (hB : BsV B) {L : List (FM.Loc × FO)} {n : Nat} {x : List Bool} (hl : ∀ p ∈ L, B p.1 = none) (hL : HP L B noH [62] = some (.cells 4 1 (a2h x))) : LFin (HP [] B noH) (fun r1 H1 => r1 = .sl [62] 1 0 n /\ H1 = HP [([62], .cells 4 1 (a2h x))] B noH) (HP L B noH) (some [.sl [62] 1 0 n]) := by
 have e : ∀ (L : List (FM.Loc × FO)) (B : Heap), HP L B noH = updL L B := fun L B => by unfold HP; rw [a1l]
 refine ⟨_, ⟨rfl, rfl⟩, fun k o hk => ?_, fun k hk => ?_, ?_, fun k o hk => ?_⟩
 . rw [e] at hk ⊢
   simp only [a1p, a1v, upd] at hk
   split at hk
   . rename_i ek; subst ek
     rw [e] at hL
     rw [hL]; exact hk
   . rw [a5h fun p hp ep => ?_]
     . exact hk
     . have := hl p hp
       rw [ep, hk] at this; cases this
 . rw [e] at hk ⊢
   simp only [a1p, a1v, upd] at hk ⊢
   split
   . simp
   . exact hk
 . show HP [([62], FO.cells 4 1 (a2h x))] B noH [62] ≠ none
   rw [e]; simp [a1p, a1v, upd]
 . rw [e] at hk
   simp only [a1p, a1v, upd] at hk
   split at hk
   . obtain rfl := sI_ hk
     exact b5y _ x
   . refine a3k (fun q hq => ?_) (hB.clo k o hk)
     rw [e]
     simp only [a1p, a1v, upd]
     split
     . simp
     . exact hq
theorem a6m (n : Nat) (l : List Bool) : (a2h l).take n = a2h (l.take n) := by simp [a2h, List.map_take]
theorem b6m {H : Heap} (l : List Bool) (k : Nat) : frzR H (k + 1) (a2h l) = some (a2h l) := by unfold frzR; rw [if_pos (a0f l)]
theorem szB {n : Nat} (h : n <= 10000000000000) : (n + n / 4 + 192) * 8 <= 140737488355328 := by omega
theorem c7h (s j : List Int) (v : Int) : List.take s.length (ints (s ++ j)) ++ [[.int .i64 v]] = ints (s ++ [v]) := by simp [ints, a2f]
theorem f9w {P : Program} {G : List (Nat × List Value)} {f : FuncId} {A A2 : List FV} {r : FV} (ha : asRs A A2) (h : PC P G f A2 r) : PC P G f A r := fun w F m vs hF hG hv hH => h w F m vs hF hG (hv.asR ha) hH
theorem c3m (n : Int) : PC Tryz.prog Gl 49 [.nils, .int .i64 n] (.list 1 (ints [n])) := f9w (by simp [asRs, asR, a2r]) (c5y [] n (by simp))
theorem c5x {nm : ByteArray} {pa rg : Int} {c : List Ins} (hc : CodeOk c) {i : Nat} (hi : i < c.length) : PC Tryz.prog Gl 130 [.agg [.str nm, .int .i64 pa, .int .i64 rg, .list 5 (inss c)], .int .i64 i] (.int .i64 (hd c i)) := by
 have h1000 := hc.n1000
 refine a3s (res := [.tmp 4]) 5 19 [] (fun d ix => 0 :: d :: ix) (fn := Tryz.f130) (by kernel_rfl) (by rfl) (by rfl) (by rfl) (by simp) (by decide) ?_
 repeat' first
  | ((with_reducible refine a1a ?_); refine a1q (σ := {k : Nat // k <= i /\ hd c k = hd c i}) (fun y => [(1, .int .i64 (y.1 : Int))]) [] (fun y => []) [] (fun y => []) (fun y => noH) (fun y => y.1) ⟨i, nr_ _, rfl⟩ (gk3 (j := 0) [] (Bs.pc _) ?_ ?_ ?_ ?_ ?_ ?_ ?_) ?_; (iterate 7 (focus (first | rfl | (simp [LPXB, *, SIMB, hdN, injB]; done)))); rintro ⟨k, hk, he⟩; simp only [lpS, LPXB]; (try dsimp only at hk); have hkl : k < c.length := (by omega); have wk : IntKind.wrap .i64 (k : Int) = (k : Int) := (by rw [IntKind.wrap_i64]; omega); rcases Nat.eq_zero_or_pos k with e0 | h0; subst e0; have hz : hd c i = 0 := (by rw [<- he]; rfl); rotate_left; by_cases o51 : c[k].op = 51; obtain ⟨m, rfl⟩ : ∃ m, k = m + 1 := ⟨k - 1, by omega⟩; have wm : IntKind.wrap .i64 (m : Int) = (m : Int) := (by rw [IntKind.wrap_i64]; omega); have p1 : (0 : Int) <= (m : Int) + 1 := (by omega); have p2 : (0 : Int) < (m : Int) + 1 := (by omega); have p3 : (m : Int) + 1 < (c.length : Int) := (by omega); have hm : hd c m = hd c i := (by rw [<- he, hd_s hkl o51]); rotate_left; have hz : hd c i = k := (by rw [<- he]; exact a6y hkl o51); have h0' : (0 : Int) < (k : Int) := (by omega); rotate_left)
  | ((with_reducible refine a0q ?_); refine a1b (⟨m, by omega, hm⟩) (gk3 (j := 0) [] (Bs.pc _) ?_ ?_ ?_ ?_ ?_ ?_ ?_) ?_; (iterate 7 (focus (first | rfl | (simp [LPXB, *, SIMB, hdN, injB]; done)))); (focus (dsimp only; omega)))
  | with_reducible first | refine stp ?_ | refine stpK ?_; intro K hK | refine stpC ?_; intro T E hT hE | refine stp2 ?_ ?_ <;> intro h | refine a0g rfl ?_ | refine a0j rfl (lbR rfl) a0i ?_ | refine a0j rfl (lbR rfl) (a0h (by simp [HPXB, ext, upd, *])) ?_ | refine a1g (by decide) (by kernel_rfl) ?_ | refine a0o (by decide) ?_ | refine Kont.go hK ?_; clear hK K | refine KT.go hT ?_; clear hT hE T E | refine KT.go hE ?_; clear hT hE T E
  | simp [*, -List.all_flatten, -List.all_eq_true, DEFB, LENB, asR, a1w, Ins.row]
theorem e5y (l : List Bool) (a b : Nat) : (l.set a true).set b true = (l.set b true).set a true := by
 by_cases e : a = b
 . subst e; rfl
 . exact List.set_comm true true e
theorem ld_j {c : List Ins} {b : List Int} {k : Nat} (h : k < c.length) (e : c[k].op = 16 \/ c[k].op = 17 \/ c[k].op = 45) : ldA c b (k + 1) = ((ldA c b k).set c[k].c.toNat true).set (k + 1) true := by
 rw [e7j, b2k h, if_pos e]
 have e2 : ((k : Int) + 1).toNat = k + 1 := by omega
 simp only [mkL, List.foldl_cons, List.foldl_nil, mk1, e2]
theorem ld_r {c : List Ins} {b : List Int} {k : Nat} (h : k < c.length) (e : ¬ (c[k].op = 16 \/ c[k].op = 17 \/ c[k].op = 45)) (e3 : c[k].op = 30) : ldA c b (k + 1) = (ldA c b k).set (k + 1) true := by
 rw [e7j, b2k h, if_neg e, if_pos e3]
 have e2 : ((k : Int) + 1).toNat = k + 1 := by omega
 simp only [mkL, List.foldl_cons, List.foldl_nil, mk1, e2]
theorem ld_n {c : List Ins} {b : List Int} {k : Nat} (h : k < c.length) (e : ¬ (c[k].op = 16 \/ c[k].op = 17 \/ c[k].op = 45)) (e3 : ¬ c[k].op = 30) : ldA c b (k + 1) = ldA c b k := by
 rw [e7j, b2k h, if_neg e, if_neg e3]; rfl
theorem f7q (c : List Ins) : (List.replicate (c.length + 1) false).set 0 true = ldA c [0] 0 := rfl
end Go.Je
