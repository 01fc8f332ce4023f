/- Part. -/
import Derived.Test.YtfhhgjbcenhdeaaGreatDoorS5
import Derived.Maps.RangeRun
set_option linter.all false
set_option maxRecDepth 100000
set_option maxHeartbeats 0
namespace Go.FM
open Go
variable {Aj H0 : Heap} {As : List Heap} {d k n : Nat} {e t tx : TypeId} {rs : List Loc} {x y : Operand}
section
variable (l0 : Loc) (sz0 : Nat) (xs0 : List (List FV))
mutual
def fz : FV -> FV
 | .ptr l sz i off => if l = l0 then .undef else .ptr l sz i off
 | .sl l sz off len => if l = l0 then (if sz = sz0 /\ off + len <= xs0.length then .list sz0 ((xs0.drop off).take len) else .undef) else .sl l sz off len
 | .mp l => if l = l0 then .undef else .mp l
 | .agg cs => .agg (fzs cs)
 | .tup cs => .tup (fzs cs)
 | .clo f a b => .clo f (fzs a) (fzs b)
 | .list sz ys => if nlss ys = true then .list sz ys else .undef
 | .ref cs => if nls cs = true then .ref cs else .undef
 | .undef => .undef
 | .int k n => .int k n
 | .bool b => .bool b
 | .str s => .str s
 | .nilp => .nilp
 | .nils => .nils
 | .nilm => .nilm
 | .nilf => .nilf
 | .emp => .emp
def fzs : List FV -> List FV
 | [] => []
 | v :: vs => fz v :: fzs vs
end
def fzss : List (List FV) -> List (List FV)
 | [] => []
 | v :: vs => fzs l0 sz0 xs0 v :: fzss vs
def fze : List (FV × FV × Nat) -> List (FV × FV × Nat)
 | [] => []
 | (k, v, n) :: es => (fz l0 sz0 xs0 k, fz l0 sz0 xs0 v, n) :: fze es
def fzT : Asg -> Asg
 | [] => []
 | (k, v) :: r => (k, fz l0 sz0 xs0 v) :: fzT r
def fzO : FO -> FO
 | .cells T sz xs => .cells T sz (fzss l0 sz0 xs0 xs)
 | .map es clk => .map (fze l0 sz0 xs0 es) clk
 | .iter x a b c => .iter (fz l0 sz0 xs0 x) a b c
 | .dead => .dead
def fzH (H : Heap) : Heap := fun k => if k = l0 then none else (H k).map (fzO l0 sz0 xs0)
end
section
variable {l0 : Loc} {sz0 : Nat} {xs0 : List (List FV)} {w : World} {F F' : Nat -> Prop} {U U' : Loc -> Prop} {m : Loc -> Nat × Nat}
theorem a7w (vs : List FV) : (fzs l0 sz0 xs0 vs).length = vs.length := by
 induction vs with
 | nil => rfl
 | cons v vs ih => simp [fzs, ih]
theorem a8k (vs : List (List FV)) : (fzss l0 sz0 xs0 vs).length = vs.length := by
 induction vs with
 | nil => rfl
 | cons v vs ih => simp [fzss, ih]
theorem d3f (a b : List FV) : fzs l0 sz0 xs0 (a ++ b) = fzs l0 sz0 xs0 a ++ fzs l0 sz0 xs0 b := by
 induction a with
 | nil => rfl
 | cons v vs ih => simp [fzs, ih]
theorem b7h (a b : List (List FV)) : fzss l0 sz0 xs0 (a ++ b) = fzss l0 sz0 xs0 a ++ fzss l0 sz0 xs0 b := by
 induction a with
 | nil => rfl
 | cons v vs ih => simp [fzss, ih]
theorem b4g (a : List (List FV)) : (fzss l0 sz0 xs0 a).flatten = fzs l0 sz0 xs0 a.flatten := by
 induction a with
 | nil => rfl
 | cons v vs ih => simp [fzss, d3f, ih]
theorem d0k {sz : Nat} {a : List (List FV)} (h : ∀ x ∈ a, x.length = sz) : ∀ x ∈ fzss l0 sz0 xs0 a, x.length = sz := by
 induction a with
 | nil => intro x hx; cases hx
 | cons v vs ih =>
   intro x hx
   rcases A0m.1 hx with rfl | hx
   . rw [a7w]; exact h v yd
   . exact ih (fun y hy => h y (by simp [hy])) x hx
mutual
theorem g8p {a : FV} (h : nl a = true) : fz l0 sz0 xs0 a = a := by
 match a with
 | .ptr .. => simp [nl] at h
 | .sl .. => simp [nl] at h
 | .mp .. => simp [nl] at h
 | .agg cs => simp only [nl] at h; simp only [fz, b7i h]
 | .tup cs => simp only [nl] at h; simp only [fz, b7i h]
 | .clo f x y => simp only [nl, A5t] at h; simp only [fz, b7i h.1, b7i h.2]
 | .list .. => simp only [nl] at h; simp [fz, h]
 | .ref .. => simp only [nl] at h; simp [fz, h]
 | .undef => rfl
 | .int .. => rfl
 | .bool _ => rfl
 | .str _ => rfl
 | .nilp => rfl
 | .nils => rfl
 | .nilm => rfl
 | .nilf => rfl
 | .emp => rfl
theorem b7i {as : List FV} (h : nls as = true) : fzs l0 sz0 xs0 as = as := by
 match as with
 | [] => rfl
 | a :: as => simp only [nls, A5t] at h; simp only [fzs, g8p h.1, b7i h.2]
end
theorem c1m {xs : List (List FV)} (h : nlss xs = true) : fzss l0 sz0 xs0 xs = xs := by
 induction xs with
 | nil => rfl
 | cons a as ih => simp only [nlss, A5t] at h; simp only [fzss, b7i h.1, ih h.2]
structure FzB (w : World) (F' : Nat -> Prop) (m : Loc -> Nat × Nat) (l0 : Loc) (sz0 : Nat) (xs0 : List (List FV)) : Prop where
 nms : nlss xs0 = true
 obj : (xs0 = [] /\ (m l0).2 = 0) \/ ((m l0).2 ≠ 0 /\ F' (m l0).1 /\ ∃ (T : TypeId) (c : Array Value), w.heap[(m l0).1]? = some (.cells c T (0, 0)) /\ (∀ x ∈ xs0, x.length = sz0) /\
     RFs w F' (fun _ => False) m xs0.flatten (c.toList.take (xs0.length * sz0)))
mutual
theorem RF.fz {a : FV} {v : Value} (h : RF w F U m a v) (hB : FzB w F' m l0 sz0 xs0) (hF : ∀ b, F b -> F' b) (hU : ∀ l, U l -> l ≠ l0 -> U' l) : RF w F' U' m (fz l0 sz0 xs0 a) v := by
 match a with
 | .ptr l sz i off =>
   simp only [FM.fz]
   split
   . exact .undef _
   . rename_i hne
     cases h with
     | ptr _ _ _ _ hu => exact .ptr l sz i off (hU l hu hne)
 | .mp l =>
   simp only [FM.fz]
   split
   . exact .undef _
   . rename_i hne
     cases h with
     | mp _ hu => exact .mp l (hU l hu hne)
 | .sl l sz off len =>
   simp only [FM.fz]
   split
   . rename_i he
     subst he
     split
     . rename_i hc
       obtain ⟨rfl, hlen⟩ := hc
       have hcl : ((xs0.drop off).take len).length = len := by simp; omega
       rcases hB.obj with ⟨hx0, h0⟩ | ⟨h0, hF0, T, c, g1, g3, g5⟩
       . have hl0 : len = 0 := by rw [hx0] at hlen; simp at hlen; omega
         subst hl0
         rw [A0v]
         cases h with
         | sl _ _ _ _ cap o hu hcap ho hs => exact .list sz [] _ cap [] yd yd yd .nil
         | sl0 => exact .list sz [] _ 0 [] yd yd yd .nil
       . have hpart := (g5.drop (off * sz)).take (len * sz)
         rw [<- a7a off xs0 g3, <- a6v len _ (fun x hx => g3 x (A1n hx))] at hpart
         have k4 : ∀ x ∈ (xs0.drop off).take len, x.length = sz := fun x hx => g3 x (A1n (A0t hx))
         have hnl : nls ((xs0.drop off).take len).flatten = true := by
          rw [<- a5b]
          have : ∀ (ys : List (List FV)), nlss ys = ys.all nls := fun ys => by
           induction ys with
           | nil => rfl
           | cons y ys ih => simp [nlss, ih]
          have hb := hB.nms
          rw [this, List.all_eq_true] at hb ⊢
          exact fun x hx => hb x (A1n (A0t hx))
         have hp2 := hpart.nameless hnl U' m
         cases h with
         | sl _ _ _ _ cap o hu hcap ho hs =>
           have := RF.list (w := w) (F := F') (U := U') (m := m) sz _ (some ⟨(m l).1, o, none⟩) cap _ k4 ya (fun hne => ?_) hp2
           . rw [hcl] at this; exact this
           . have hpos : 0 < len := by
              rcases A1v len with e | e
              . exact absurd (A5u ya) hne
              . exact e
             have ho' : o = off * sz := ho.resolve_left ya
             refine ⟨_, rfl, hF0, fun j u hj => ?_⟩
             rw [A0p] at hj
             split at hj
             . rename_i hjl
               rw [A2c, A0p] at hj
               split at hj
               . rw [add0, a5a g1, ho']; simpa using hj
               . cases hj
             . cases hj
         | sl0 _ _ _ _ hu h00 => exact absurd h00 h0
     . exact .undef _
   . rename_i hne
     cases h with
     | sl _ _ _ _ cap o hu hc ho hs => exact .sl l sz off len cap o (hU l hu hne) hc ho hs
     | sl0 _ _ _ A hu h0 => exact .sl0 l sz off A (hU l hu hne) h0
 | .agg cs =>
   cases h with
   | agg _ vs h => simp only [FM.fz]; exact .agg _ vs (RFs.fz h hB hF hU)
 | .tup cs =>
   cases h with
   | tup _ vs h => simp only [FM.fz]; exact .tup _ vs (RFs.fz h hB hF hU)
 | .clo f x y =>
   cases h with
   | clo _ _ _ us vs h1 h2 => simp only [FM.fz]; exact .clo f _ _ us vs (RFs.fz h1 hB hF hU) (RFs.fz h2 hB hF hU)
 | .list sz ys =>
   simp only [FM.fz]
   split
   . rename_i hn
     exact (h.keep (w' := w) (F' := F') (U' := U) (m' := m) hF (fun _ _ => rfl) (fun _ h => h) (fun _ _ => rfl)).nameless (by simpa [nl] using hn) _ _
   . exact .undef _
 | .ref cs =>
   simp only [FM.fz]
   split
   . rename_i hn
     exact (h.keep (w' := w) (F' := F') (U' := U) (m' := m) hF (fun _ _ => rfl) (fun _ h => h) (fun _ _ => rfl)).nameless (by simpa [nl] using hn) _ _
   . exact .undef _
 | .undef => exact .undef _
 | .int .. => exact (h.keep (w' := w) (F' := F') (U' := U) (m' := m) hF (fun _ _ => rfl) (fun _ h => h) (fun _ _ => rfl)).nameless rfl _ _
 | .bool _ => exact (h.keep (w' := w) (F' := F') (U' := U) (m' := m) hF (fun _ _ => rfl) (fun _ h => h) (fun _ _ => rfl)).nameless rfl _ _
 | .str _ => exact (h.keep (w' := w) (F' := F') (U' := U) (m' := m) hF (fun _ _ => rfl) (fun _ h => h) (fun _ _ => rfl)).nameless rfl _ _
 | .nilp => exact (h.keep (w' := w) (F' := F') (U' := U) (m' := m) hF (fun _ _ => rfl) (fun _ h => h) (fun _ _ => rfl)).nameless rfl _ _
 | .nils => exact (h.keep (w' := w) (F' := F') (U' := U) (m' := m) hF (fun _ _ => rfl) (fun _ h => h) (fun _ _ => rfl)).nameless rfl _ _
 | .nilm => exact (h.keep (w' := w) (F' := F') (U' := U) (m' := m) hF (fun _ _ => rfl) (fun _ h => h) (fun _ _ => rfl)).nameless rfl _ _
 | .nilf => exact (h.keep (w' := w) (F' := F') (U' := U) (m' := m) hF (fun _ _ => rfl) (fun _ h => h) (fun _ _ => rfl)).nameless rfl _ _
 | .emp => exact (h.keep (w' := w) (F' := F') (U' := U) (m' := m) hF (fun _ _ => rfl) (fun _ h => h) (fun _ _ => rfl)).nameless rfl _ _
theorem RFs.fz {as : List FV} {vs : List Value} (h : RFs w F U m as vs) (hB : FzB w F' m l0 sz0 xs0) (hF : ∀ b, F b -> F' b) (hU : ∀ l, U l -> l ≠ l0 -> U' l) : RFs w F' U' m (fzs l0 sz0 xs0 as) vs := by
 match as with
 | [] => cases h; exact .nil
 | a :: as =>
   cases h with
   | cons _ v _ vs h hs => exact .cons _ v _ vs (RF.fz h hB hF hU) (RFs.fz hs hB hF hU)
end
theorem REs.fz {es : List (FV × FV × Nat)} {as : List MapEntry} (h : REs w F U m es as) (hB : FzB w F' m l0 sz0 xs0) (hF : ∀ b, F b -> F' b) (hU : ∀ l, U l -> l ≠ l0 -> U' l) : REs w F' U' m (fze l0 sz0 xs0 es) as := by
 induction es generalizing as with
 | nil => cases h; exact .nil
 | cons e es ih =>
   cases h with
   | cons _ x _ xs h hs =>
     obtain ⟨k, v, n⟩ := e
     exact .cons _ x _ xs ⟨h.key.fz hB hF hU, h.val.fz hB hF hU, h.born⟩ (ih hs)
end
theorem e9x (l0 : Loc) (sz0 : Nat) (xs0 : List (List FV)) (tm : Asg) (t : Nat) : lk (fzT l0 sz0 xs0 tm) t = fz l0 sz0 xs0 (lk tm t) := by
 induction tm with
 | nil => rfl
 | cons e r ih =>
   obtain ⟨k, v⟩ := e
   simp only [fzT, lk]
   split
   . rfl
   . exact ih
theorem d0i (l0 : Loc) (sz0 : Nat) (xs0 : List (List FV)) (vs : List FV) (t : Nat) : (fzs l0 sz0 xs0 vs).getD t .undef = fz l0 sz0 xs0 (vs.getD t .undef) := by
 induction vs generalizing t with
 | nil => rfl
 | cons v vs ih =>
   cases t with
   | zero => rfl
   | succ t => simpa [fzs] using ih t
theorem g8i {c : Cfg} {vs : List FV} {tm : Asg} {H : Heap} {ix : List Nat} (l0 : Loc) (T0 : TypeId) (sz0 : Nat) (xs0 : List (List FV)) (hc : ∀ l, ¬ c.L l) (hl : H l0 = some (.cells T0 sz0 xs0)) (hn : nlss xs0 = true) :
 Gk c (Fs.mk (fzs l0 sz0 xs0 vs) (fzT l0 sz0 xs0 tm) (fzH l0 sz0 xs0 H) ix) ⟨vs, tm, H, ix⟩ := by
 rintro X a w ⟨hN, F, m, h1, h2, h⟩
 have hH0 : ∀ l, X.H0 l = none := fun l => by
  cases e : X.H0 l with
  | none => rfl
  | some o => exact absurd (h1.hd l z1e) (hc l)
 have hlent : ∀ b, ¬ X.lent b := fun b ⟨l, ⟨o, ho, _⟩, _⟩ => by rw [hH0] at ho; cases ho
 let F' : Nat -> Prop := fun b => F b \/ (Live H m l0 /\ (m l0).1 = b)
 have hF : ∀ b, F b -> F' b := fun _ h => .inl h
 have hU : ∀ l, H l ≠ none -> l ≠ l0 -> fzH l0 sz0 xs0 H l ≠ none := fun l hl' hne => by
  cases e : H l with
  | none => exact absurd e hl'
  | some o => simp [fzH, hne, e]
 have hB : FzB w F' m l0 sz0 xs0 := by
  refine ⟨hn, ?_⟩
  rcases h.heap.obj l0 _ hl with ⟨g1, g2⟩ | ⟨g0, cc, g1, g2, g3, g4, g5⟩
  . exact .inl ⟨g1, g2⟩
  . refine .inr ⟨g0, .inr ⟨⟨_, hl, by simp, g0⟩, rfl⟩, T0, cc, g1, g3, ?_⟩
    exact (g5.keep (w' := w) (F' := F') (U' := fun l => H l ≠ none) (m' := m) hF (fun _ _ => rfl) (fun _ h => h) (fun _ _ => rfl)).nameless z3a _ _
 have hlive : ∀ l, Live (fzH l0 sz0 xs0 H) m l -> l ≠ l0 /\ Live H m l := fun l ⟨o, g1, g2, g3⟩ => by
  unfold fzH at g1
  split at g1
  . cases g1
  . rename_i hne
    rw [A5q] at g1
    obtain ⟨o', g1, rfl⟩ := g1
    refine ⟨hne, o', g1, ?_, g3⟩
    rintro rfl
    exact g2 rfl
 refine ⟨hN, F', m, h1.more hF, fun y hy => ?_, ?_⟩
 . rcases hy with hy | ⟨hy, rfl⟩
   . exact h2 y hy
   . exact .inr ((h.own l0 hy).resolve_left (hlent _))
 refine { df := h.df, vsz := by rw [a7w]; exact h.vsz, val := fun t => ?_, heap := ⟨fun l o ho => ?_, fun k k' hk hk' e => h.heap.inj k k' (hlive k hk).2 (hlive k' hk').2 e, fun k hk => ?_⟩, own := fun l hl => h.own l (hlive l hl).2,
          ext := fun l hl => absurd (hH0 l) hl, mfix := fun l hl => absurd (hH0 l) hl, frz := fun b hb => ?_, keep := h.keep, size := h.size, os := h.os, tape := h.tape, output := h.output }
 . have hv := h.val t
   have e : (Fs.mk (fzs l0 sz0 xs0 vs) (fzT l0 sz0 xs0 tm) (fzH l0 sz0 xs0 H) ix).get t = fz l0 sz0 xs0 ((Fs.mk vs tm H ix).get t) := by
    simp only [Fs.get, a7w]
    split
    . exact d0i ..
    . exact e9x ..
   rw [e]
   exact hv.fz hB hF hU
 . simp only [fzH] at ho
   split at ho
   . cases ho
   . rename_i hne
     rw [A5q] at ho
     obtain ⟨o', ho', rfl⟩ := ho
     have hob := h.heap.obj l o' ho'
     cases o' with
     | cells T sz xs =>
       simp only [fzO, OR] at hob ⊢
       rcases hob with ⟨b1, b2⟩ | ⟨b0, cc, b1, b2, b3, b4, b5⟩
       . left; subst b1; exact ⟨rfl, b2⟩
       . right
         refine ⟨b0, cc, b1, b2, d0k b3, by rw [a8k]; exact b4, ?_⟩
         rw [a8k, b4g]
         exact b5.fz hB hF hU
     | map es clk =>
       simp only [fzO, OR] at hob ⊢
       obtain ⟨b0, aa, b1, b2⟩ := hob
       exact ⟨b0, aa, b1, b2.fz hB hF hU⟩
     | iter x q r t =>
       simp only [fzO, OR] at hob ⊢
       obtain ⟨b0, aa, b1, b2⟩ := hob
       exact ⟨b0, aa, b1.fz hB hF hU, b2⟩
     | dead => trivial
 . obtain ⟨hne, hk'⟩ := hlive k hk
   obtain ⟨g1, g2⟩ := h.heap.old k hk'
   refine ⟨g1, ?_⟩
   rintro (hy | ⟨hy, e⟩)
   . exact g2 hy
   . exact hne (h.heap.inj k l0 hk' hy e.symm)
 . rcases hb with hb | ⟨hb, rfl⟩
   . exact h.frz b hb
   . exact (h.heap.old l0 hb).1
section
variable {P : Program} {c : Cfg} {ops : Array Oper} {o : Oper} {rest : List Oper} {s : Fs} {K : Fs -> Prop}
theorem d2a (ht : (slT P t).isSome = true) (ho : o.op = .buildSlice t 0 #[]) : WOk P s o [] .emp := by
 intro X F m a w h
 obtain ⟨⟨e, sz⟩, ht⟩ := A1g.1 ht
 obtain ⟨hu, hz⟩ := a3a ht
 have hrun : (Instr.buildSlice t 0 #[]).run P w = .ok (.slice (some ⟨w.heap.size, 0, none⟩) 0 0) (w.alloc (.cells #[] e (0, 0))) := by
  simp only [Instr.buildSlice, Sem.run_bind, run_underlying hu, Result.andThen_ok, a2s hz, newRow]
  have e2 : ∀ f : Nat -> Value, (Array.range 0).map f = #[] := fun f => by simp
  simp [Instr.fill, newRow, Sem.run]
  rw [e2]
 refine ⟨m, .slice (some ⟨w.heap.size, 0, none⟩) 0 0, w.alloc (.cells #[] e (0, 0)), .inl (by simp only [execOp, ho, Sem.run_bind]; simp [hrun]), ?_, .emp _⟩
 exact h.world (by show w.heap.size <= (w.heap.push _).size; simp) (fun b hb => by show (w.heap.push _)[b]? = _; rw [A5g, if_neg ya]) rfl rfl rfl
theorem c7f (t : TypeId) (hk : k < n) (hd : b1q ops n k o = true) (ho : o.op = .buildSlice t 0 #[]) (ht : (slT P t).isSome = true) (hg : a0x ops o s = some true) (hdst : o.dst = some d) (hN : d < c.N)
 (h : awH P c ops n K H0 rs (k + 1) rest ({ s with H := ext s.H noH }.put d .emp) (As ++ [noH])) : awH P c ops n K H0 rs k (o :: rest) s As := by
 simp only [awH, hk, if_true]
 refine ⟨d, .emp, noH, H0, fun _ => False, ⟨hdst, hN, fun X s2 a w K Q h1 _ _ _ hR hK => ?_⟩, hd, fun _ h => absurd rfl h, fun _ h => h.elim, fun _ _ h => .inl h, h⟩
 have hg' : a0x ops o { s with H := H0 } = some true := hg
 rw [if_pos (a4a hR ((a4h h1).trans hg'))]
 refine .inl (b3b ((d2a (s := s2) (o := o) ht ho).snd (c := c) (s' := s2.put d .emp) ?_) hR ?_)
 . simp only [putD, hdst, upds]
   rw [if_pos hN]
   try rfl
 . intro v w' hr
   exact hK v w' (by rw [a3r]; exact hr)
theorem d2b {H1 H : Heap} (hs : HSub H1 H) {nm : Loc} (hn : H nm = none) {x y : FV} {r : LF × FV} (h : wApp P H1 nm t tx x y = some r) : wApp P H nm t tx x y = some r := by
 unfold wApp at h ⊢
 split at h
 case h_2 => cases h
 split at h
 case h_2 => cases h
 split at h
 case isFalse => cases h
 rename_i hc0
 split at h
 case h_2 => cases h
 rename_i hsrc
 split at h
 case isFalse => cases h
 rename_i hcell
 simp only [c3a hs hsrc, hcell, hc0, if_true]
 split at h
 . split at h
   . rename_i hr; simp only [hr, if_true]; exact h
   . rename_i hr
     split at h
     case isFalse => cases h
     rename_i hc
     rw [A5t, A5t] at hc
     simp only [hr, hc.1, hc.2.1, hn, A1u, A3j, if_true]
     exact h
 . split at h
   case isFalse => cases h
   rename_i hc
   rw [A5t, A5t] at hc
   simp only [hc.1, hc.2.1, hn, A1u, A3j, if_true]
   exact h
 . split at h
   . rename_i hl
     simp only [hs _ _ hl]
     split at h
     case isFalse => cases h
     rename_i hc
     simp only [A5t] at hc
     obtain ⟨⟨c1, c2⟩, c3, c4, c5, c6, c7⟩ := hc
     simp only [c1, c2, c3, c4, c5, c6, hn, A1u, A3j, if_true]
     exact h
   . cases h
 . cases h
theorem c2j {Hy : Heap} (l0 : Loc) (ob0 : FO) (sz : Nat) (ys : List (List FV)) (v : FV) (hk : k < n) (hd : b1q ops n k o = true)
 (ho : o.op = .call { callee := .builtin .append, args := ⟨[x, y]⟩, argTypes := ⟨[t, tx]⟩ }) (hg : a0x ops o s = some true) (hdst : o.dst = some d) (hN : d < c.N)
 (hrs : l0 ∈ rs) (h0 : H0 l0 = none) (hw : ∀ (j : Nat) (Aj : Heap), As[j]? = some Aj -> Aj l0 ≠ none -> a2z o j = true) (hy : ∀ l ob, Hy l = some ob -> l ∉ rs /\ ∃ j Aj, As[j]? = some Aj /\ a2z o j = true /\ Aj l = some ob)
 (hs : s.H l0 = some ob0) (hnm : s.H (c.nm d s.ix) = none)
 (hv : wApp P (upd Hy l0 ob0) (c.nm d s.ix) t tx (rv s x) (rv s y) = some ([(l0, .dead), (c.nm d s.ix, .cells e sz ys)], v))
 (h : awH P c ops n K H0 rs (k + 1) rest ({ s with H := ext s.H (upds noH [(l0, .dead), (c.nm d s.ix, .cells e sz ys)]) }.put d v) (As ++ [upds noH [(l0, .dead), (c.nm d s.ix, .cells e sz ys)]])) : awH P c ops n K H0 rs k (o :: rest) s As := by
 simp only [awH, hk, if_true]
 have hne : c.nm d s.ix ≠ l0 := fun e => by rw [e, hs] at hnm; cases hnm
 refine ⟨d, v, _, upd Hy l0 ob0, fun l => l = l0, e7s hg (by simp [a0l, ho]) hdst hN (fun s2 g1 g2 g3 g4 => ?_), hd, fun l hl => ?_, fun l hl => ?_, fun l ob hl => ?_, h⟩
 . have e1 : rv s2 x = rv s x := g1 x (by rw [ho]; simp [Op.operands, Call.operands])
   have e2 : rv s2 y = rv s y := g1 y (by rw [ho]; simp [Op.operands, Call.operands])
   have hnm2 : s2.H (c.nm d s.ix) = none := g4 _ z1d hne
   have := d2b (P := P) g3 hnm2 hv
   simp only [wv, ho, g2, e1, e2]
   exact this
 . by_cases e : l = l0
   . exact .inl e
   . refine .inr ?_
     by_cases e' : l = c.nm d s.ix
     . rw [e']; exact hnm
     . exact absurd (by simp [upds, upd, e, e', noH]) hl
 . subst hl
   exact ⟨by simp [upds, upd, A4f hne], hrs, h0, hw⟩
 . simp only [upd] at hl
   split at hl
   . rename_i e; subst e
     obtain rfl := A5o hl
     exact .inr (.inl ⟨rfl, hs⟩)
   . exact .inr (.inr (hy l ob hl))
theorem e3e {l0 : Loc} (h : As.all (fun A => (A l0).isNone) = true) : ∀ (j : Nat) (Aj : Heap), As[j]? = some Aj -> Aj l0 ≠ none -> a2z o j = true := fun j Aj hj hne => by
 have := List.all_eq_true.1 h Aj (A1b hj)
 exact absurd (by simpa using this) hne
theorem c2r {l0 : Loc} (j0 : Nat) (hw : a2z o j0 = true) (h : As.zipIdx.all (fun A => (A.1 l0).isNone || A.2 == j0) = true) : ∀ (j : Nat) (Aj : Heap), As[j]? = some Aj -> Aj l0 ≠ none -> a2z o j = true := fun j Aj hj hne => by
 have := List.all_eq_true.1 h (Aj, j) (by rw [List.mem_zipIdx_iff_getElem?]; exact hj)
 simp only [A2v, A1i, beq_iff_eq] at this
 rcases this with h' | h'
 . exact absurd h' hne
 . rw [h']; exact hw
theorem c9p {l1 : Loc} {ob1 : FO} (j : Nat) (hj : As[j]? = some Aj) (hw : a2z o j = true) (h1 : Aj l1 = some ob1) (hrs : rs.contains l1 = false) :
 ∀ l ob, upd noH l1 ob1 l = some ob -> l ∉ rs /\ ∃ j Aj, As[j]? = some Aj /\ a2z o j = true /\ Aj l = some ob := fun l ob hl => by
 simp only [upd] at hl
 split at hl
 . rename_i e; subst e
   obtain rfl := A5o hl
   exact ⟨by simpa using hrs, j, Aj, hj, hw, h1⟩
 . cases hl
theorem f4t : ∀ l ob, noH l = some ob -> l ∉ rs /\ ∃ j Aj, As[j]? = some Aj /\ a2z o j = true /\ Aj l = some ob := fun _ _ h => by cases h
theorem b8i {j : Nat} (l0 l1 : Loc) (ob0 ob1 : FO) (sz : Nat) (ys : List (List FV)) (v : FV) (hk : k < n) (hd : b1q ops n k o = true)
 (ho : o.op = .call { callee := .builtin .append, args := ⟨[x, y]⟩, argTypes := ⟨[t, tx]⟩ }) (hg : a0x ops o s = some true) (hdst : o.dst = some d) (hN : d < c.N)
 (hj : As[j]? = some Aj) (hw : a2z o j = true) (h1 : Aj l1 = some ob1) (hs : s.H l0 = some ob0) (h0 : H0 l0 = none) (hrs : (rs.contains l0 && !rs.contains l1) = true) (hAs : As.all (fun A => (A l0).isNone) = true) (hnm : s.H (c.nm d s.ix) = none)
 (hv : wApp P (upd (upd noH l1 ob1) l0 ob0) (c.nm d s.ix) t tx (rv s x) (rv s y) = some ([(l0, .dead), (c.nm d s.ix, .cells e sz ys)], v))
 (h : awH P c ops n K H0 rs (k + 1) rest ({ s with H := ext s.H (upds noH [(l0, .dead), (c.nm d s.ix, .cells e sz ys)]) }.put d v) (As ++ [upds noH [(l0, .dead), (c.nm d s.ix, .cells e sz ys)]])) : awH P c ops n K H0 rs k (o :: rest) s As := by
 simp only [A5t, A4x] at hrs
 exact c2j l0 ob0 sz ys v hk hd ho hg hdst hN (by simpa using hrs.1) h0 (e3e hAs) (c9p j hj hw h1 hrs.2) hs hnm hv h
theorem d1l {j : Nat} (l0 l1 : Loc) (j0 : Nat) (ob0 ob1 : FO) (sz : Nat) (ys : List (List FV)) (v : FV) (hk : k < n) (hd : b1q ops n k o = true)
 (ho : o.op = .call { callee := .builtin .append, args := ⟨[x, y]⟩, argTypes := ⟨[t, tx]⟩ }) (hg : a0x ops o s = some true) (hdst : o.dst = some d) (hN : d < c.N)
 (hj : As[j]? = some Aj) (hw : a2z o j = true) (h1 : Aj l1 = some ob1) (hs : s.H l0 = some ob0) (h0 : H0 l0 = none) (hrs : (rs.contains l0 && !rs.contains l1) = true) (hw0 : a2z o j0 = true) (hAs : As.zipIdx.all (fun A => (A.1 l0).isNone || A.2 == j0) = true) (hnm : s.H (c.nm d s.ix) = none)
 (hv : wApp P (upd (upd noH l1 ob1) l0 ob0) (c.nm d s.ix) t tx (rv s x) (rv s y) = some ([(l0, .dead), (c.nm d s.ix, .cells e sz ys)], v))
 (h : awH P c ops n K H0 rs (k + 1) rest ({ s with H := ext s.H (upds noH [(l0, .dead), (c.nm d s.ix, .cells e sz ys)]) }.put d v) (As ++ [upds noH [(l0, .dead), (c.nm d s.ix, .cells e sz ys)]])) : awH P c ops n K H0 rs k (o :: rest) s As := by
 simp only [A5t, A4x] at hrs
 exact c2j l0 ob0 sz ys v hk hd ho hg hdst hN (by simpa using hrs.1) h0 (c2r j0 hw0 hAs) (c9p j hj hw h1 hrs.2) hs hnm hv h
theorem d1k (l0 : Loc) (j0 : Nat) (ob0 : FO) (sz : Nat) (ys : List (List FV)) (v : FV) (hk : k < n) (hd : b1q ops n k o = true)
 (ho : o.op = .call { callee := .builtin .append, args := ⟨[x, y]⟩, argTypes := ⟨[t, tx]⟩ }) (hg : a0x ops o s = some true) (hdst : o.dst = some d) (hN : d < c.N)
 (hs : s.H l0 = some ob0) (h0 : H0 l0 = none) (hrs : rs.contains l0 = true) (hw0 : a2z o j0 = true) (hAs : As.zipIdx.all (fun A => (A.1 l0).isNone || A.2 == j0) = true) (hnm : s.H (c.nm d s.ix) = none)
 (hv : wApp P (upd noH l0 ob0) (c.nm d s.ix) t tx (rv s x) (rv s y) = some ([(l0, .dead), (c.nm d s.ix, .cells e sz ys)], v))
 (h : awH P c ops n K H0 rs (k + 1) rest ({ s with H := ext s.H (upds noH [(l0, .dead), (c.nm d s.ix, .cells e sz ys)]) }.put d v) (As ++ [upds noH [(l0, .dead), (c.nm d s.ix, .cells e sz ys)]])) : awH P c ops n K H0 rs k (o :: rest) s As :=
 c2j l0 ob0 sz ys v hk hd ho hg hdst hN (by simpa using hrs) h0 (c2r j0 hw0 hAs) f4t hs hnm hv h
end
end Go.FM
namespace Go.FM
open Go
open Go.ChangeMaps (setBlock)
section
variable {P : Program} {X : Ctx} {c : Cfg} {w w' : World} {F F' : Nat -> Prop} {m m' : Loc -> Nat × Nat} {s s' : Fs} {a a' : Act} {o : Oper} {ops : Array Oper}
def OWp (P : Program) (c : Cfg) (o : Oper) (s : Fs) (Φ : Fs -> Prop) : Prop :=
 ∀ (X : Ctx) (a : Act) (w : World) (K : Act -> World -> Prop) (Q : Exit -> Act -> World -> Prop), Rel X c s a w -> (∀ s1 u w', Φ s1 -> Rel X c s1 (a.put o.dst u) w' -> K (a.put o.dst u) w') -> o.wp P a w K Q
theorem c7l {Q : Exit -> Act -> World -> Prop} {K : Fs -> Prop} {l2 : List Oper} (hK : ∀ s a w, Rel X c s a w -> K s -> wpList P ops Q l2 a w) :
 ∀ (l : List Oper) (s : Fs) (a : Act) (w : World), Rel X c s a w -> wOps P c ops l K s -> wpList P ops Q (l ++ l2) a w
 | [], s, a, w, h, hs => hK s a w h hs
 | o :: rest, s, a, w, h, hs => by
   have ih := c7l (l2 := l2) hK rest
   simp only [wOps] at hs
   rw [List.cons_append]
   unfold wpList
   split at hs
   . rename_i hg
     rw [if_pos (a4a h hg)]
     left
     unfold d1y at hs
     split at hs
     . rename_i f A hc
       obtain ⟨hf, r, H', hfc, s1, hp, hs⟩ := hs
       exact c6z hc hf hfc hp h fun v w' h' => ih s1 _ _ h' hs
     . obtain ⟨s1, hst, hs⟩ := hs
       exact b3b (b2v hst) h fun v w' h' => ih s1 _ _ h' hs
   . rename_i hg
     rw [if_neg (by rw [a4a h hg]; simp)]
     obtain ⟨s1, hst, hs⟩ := hs
     exact ih s1 _ _ (c0d h hst) hs
   . exact hs.elim
theorem REs.mem {U : Loc -> Prop} {es : List (FV × FV × Nat)} {xs : List MapEntry} (h : REs w F U m es xs) {x : MapEntry} (hx : x ∈ xs) : ∃ e ∈ es, RE w F U m e x := by
 induction h with
 | nil => cases hx
 | cons e y es ys h hs ih =>
   rcases A0m.1 hx with rfl | hx
   . exact ⟨e, by simp, h⟩
   . obtain ⟨e', h1, h2⟩ := ih hx
     exact ⟨e', by simp [h1], h2⟩
theorem REs.mem' {U : Loc -> Prop} {es : List (FV × FV × Nat)} {xs : List MapEntry} (h : REs w F U m es xs) {e : FV × FV × Nat} (he : e ∈ es) : ∃ x ∈ xs, RE w F U m e x := by
 induction h with
 | nil => cases he
 | cons e' y es ys h hs ih =>
   rcases A0m.1 he with rfl | hx
   . exact ⟨y, by simp, h⟩
   . obtain ⟨e', h1, h2⟩ := ih hx
     exact ⟨e', by simp [h1], h2⟩
end
end Go.FM
namespace Go.FM
open Go
variable {A B H H' : Heap} {G : List (Nat × List Value)} {L : LF} {P : Program} {args vs vs1 : List FV} {c : Cfg} {code : Code} {f : FuncId} {fn : Func} {ix ix1 : List Nat} {j : Nat} {l : Loc} {o : FO} {r : FV} {res : List ResultVar} {tm tm1 : Asg} {xs : List (List FV)} {σ : Type}
section
variable {P : Program} {G : List (Nat × List Value)} {f : FuncId} {w w' : World} {F F' : Nat -> Prop} {m m' : Loc -> Nat × Nat}
mutual
def nin (U : Loc -> Prop) : FV -> Prop
 | .ptr l _ _ _ => U l
 | .sl l _ _ _ => U l
 | .mp l => U l
 | .agg cs => nins U cs
 | .tup cs => nins U cs
 | .clo _ a b => nins U a /\ nins U b
 | .list _ xs => nlss xs = true
 | .ref cs => nls cs = true
 | _ => True
def nins (U : Loc -> Prop) : List FV -> Prop
 | [] => True
 | v :: vs => nin U v /\ nins U vs
end
mutual
theorem RF.nin {U U' : Loc -> Prop} {a : FV} {v : Value} (h : RF w F U m a v) (ha : nin U' a) : RF w F U' m a v := by
 match a with
 | .ptr l sz i off => cases h with | ptr _ _ _ _ hu => exact .ptr l sz i off ha
 | .sl l sz off len =>
   cases h with
   | sl _ _ _ _ cap o hu hc ho hs => exact .sl l sz off len cap o ha hc ho hs
   | sl0 _ _ _ A hu h0 => exact .sl0 l sz off A ha h0
 | .mp l => cases h with | mp _ hu => exact .mp l ha
 | .agg cs => cases h with | agg _ vs h => exact .agg cs vs (RFs.nin h ha)
 | .tup cs => cases h with | tup _ vs h => exact .tup cs vs (RFs.nin h ha)
 | .clo g x y => cases h with | clo _ _ _ us vs h1 h2 => exact .clo g x y us vs (RFs.nin h1 ha.1) (RFs.nin h2 ha.2)
 | .list sz xs => exact h.nameless (by simpa [nl, FM.nin] using ha) _ _
 | .ref cs => exact h.nameless (by simpa [nl, FM.nin] using ha) _ _
 | .undef => exact h.nameless rfl _ _
 | .int .. => exact h.nameless rfl _ _
 | .bool _ => exact h.nameless rfl _ _
 | .str _ => exact h.nameless rfl _ _
 | .nilp => exact h.nameless rfl _ _
 | .nils => exact h.nameless rfl _ _
 | .nilm => exact h.nameless rfl _ _
 | .nilf => exact h.nameless rfl _ _
 | .emp => exact h.nameless rfl _ _
theorem RFs.nin {U U' : Loc -> Prop} {as : List FV} {vs : List Value} (h : RFs w F U m as vs) (ha : nins U' as) : RFs w F U' m as vs := by
 match as with
 | [] => cases h; exact .nil
 | a :: as => cases h with | cons _ v _ vs h hs => exact .cons a v as vs (RF.nin h ha.1) (RFs.nin hs ha.2)
end
def a1h (U : Loc -> Prop) : List (List FV) -> Prop
 | [] => True
 | v :: vs => nins U v /\ a1h U vs
def nine (U : Loc -> Prop) : List (FV × FV × Nat) -> Prop
 | [] => True
 | e :: es => (nin U e.1 /\ nin U e.2.1) /\ nine U es
def ninO (U : Loc -> Prop) : FO -> Prop
 | .cells _ _ xs => a1h U xs
 | .map es _ => nine U es
 | .iter x _ _ _ => nin U x
 | .dead => True
theorem e5c {U : Loc -> Prop} {a b : List FV} (h : nins U a) (h' : nins U b) : nins U (a ++ b) := by
 induction a with
 | nil => exact h'
 | cons x a ih => exact ⟨h.1, ih h.2⟩
theorem d2w {U : Loc -> Prop} (h : a1h U xs) : nins U xs.flatten := by
 induction xs with
 | nil => trivial
 | cons x a ih => exact e5c h.1 (ih h.2)
theorem REs.nin {U U' : Loc -> Prop} {es : List (FV × FV × Nat)} {xs : List MapEntry} (h : REs w F U m es xs) (he : nine U' es) : REs w F U' m es xs := by
 match h with
 | .nil => exact .nil
 | .cons e x es xs h hs => exact .cons e x es xs ⟨h.key.nin he.1.1, h.val.nin he.1.2, h.born⟩ (REs.nin hs he.2)
def Clo (H : Heap) : Prop := ∀ l o, H l = some o -> ninO (fun l => H l ≠ none) o
theorem OR.nin {H H1 : Heap} {l : Loc} {o : FO} (h : OR w F H m l o) (ho : ninO (fun l => H1 l ≠ none) o) : OR w F H1 m l o := by
 cases o with
 | cells T sz xs =>
   simp only [OR] at h ⊢
   rcases h with h1 | ⟨h0, c, h1, h2, h3, h4, h5⟩
   . exact .inl h1
   . exact .inr ⟨h0, c, h1, h2, h3, h4, h5.nin (d2w ho)⟩
 | map es clk =>
   simp only [OR] at h ⊢
   obtain ⟨h0, b, h1, h2⟩ := h
   exact ⟨h0, b, h1, h2.nin ho⟩
 | iter x since seen last =>
   simp only [OR] at h ⊢
   obtain ⟨h0, q, h1, h2⟩ := h
   exact ⟨h0, q, h1.nin ho, h2⟩
 | dead => trivial
theorem a1m (H A : Heap) (l : Loc) : ext H A l = match A l with | some o => some o | none => H l := rfl
end
section
variable {β : Loc -> Option Loc} {U U' : Loc -> Prop}
mutual
theorem c0m {a : FV} (h : nin U a) (hb : ∀ l, U l -> β l = some l) : ren β a = a := by
 match a with
 | .ptr l sz i off => simp only [ren, hb l h]
 | .sl l sz off len => simp only [ren, hb l h]
 | .mp l => simp only [ren, hb l h]
 | .agg cs => simp only [ren, b0d h hb]
 | .tup cs => simp only [ren, b0d h hb]
 | .clo f x y => simp only [ren, b0d h.1 hb, b0d h.2 hb]
 | .list .. => rfl
 | .ref .. => rfl
 | .undef => rfl
 | .int .. => rfl
 | .bool _ => rfl
 | .str _ => rfl
 | .nilp => rfl
 | .nils => rfl
 | .nilm => rfl
 | .nilf => rfl
 | .emp => rfl
theorem b0d {as : List FV} (h : nins U as) (hb : ∀ l, U l -> β l = some l) : rens β as = as := by
 match as with
 | [] => rfl
 | a :: as => simp only [rens, c0m h.1 hb, b0d h.2 hb]
end
mutual
theorem c1c {a : FV} (h : nin U a) (hb : ∀ l, U l -> β l = some l) (hU : ∀ l, U l -> U' l) : inn β U' a := by
 match a with
 | .ptr l sz i off => exact ⟨hU l h, by simp [hb l h]⟩
 | .sl l sz off len => exact ⟨hU l h, by simp [hb l h]⟩
 | .mp l => exact ⟨hU l h, by simp [hb l h]⟩
 | .agg cs => exact b0p (as := cs) h hb hU
 | .tup cs => exact b0p (as := cs) h hb hU
 | .clo f x y => exact ⟨b0p (as := x) h.1 hb hU, b0p (as := y) h.2 hb hU⟩
 | .list .. => exact h
 | .ref .. => exact h
 | .undef => trivial
 | .int .. => trivial
 | .bool _ => trivial
 | .str _ => trivial
 | .nilp => trivial
 | .nils => trivial
 | .nilm => trivial
 | .nilf => trivial
 | .emp => trivial
theorem b0p {as : List FV} (h : nins U as) (hb : ∀ l, U l -> β l = some l) (hU : ∀ l, U l -> U' l) : inns β U' as := by
 match as with
 | [] => trivial
 | a :: as => exact ⟨c1c h.1 hb hU, b0p h.2 hb hU⟩
end
theorem a9i (h : a1h U xs) (hb : ∀ l, U l -> β l = some l) : renss β xs = xs := by
 induction xs with
 | nil => rfl
 | cons a as ih => simp only [renss, b0d h.1 hb, ih h.2]
theorem a9s (h : a1h U xs) (hb : ∀ l, U l -> β l = some l) (hU : ∀ l, U l -> U' l) : a3z β U' xs := by
 induction xs with
 | nil => trivial
 | cons a as ih => exact ⟨b0p h.1 hb hU, ih h.2⟩
theorem e4m {es : List (FV × FV × Nat)} (h : nine U es) (hb : ∀ l, U l -> β l = some l) : rene β es = es := by
 induction es with
 | nil => rfl
 | cons e es ih =>
   obtain ⟨k, v, n⟩ := e
   simp only [rene, c0m h.1.1 hb, c0m h.1.2 hb, ih h.2]
theorem e5x {es : List (FV × FV × Nat)} (h : nine U es) (hb : ∀ l, U l -> β l = some l) (hU : ∀ l, U l -> U' l) : inne β U' es := by
 induction es with
 | nil => trivial
 | cons e es ih =>
   obtain ⟨k, v, n⟩ := e
   exact ⟨⟨c1c h.1.1 hb hU, c1c h.1.2 hb hU⟩, ih h.2⟩
theorem e4n (h : ninO U o) (hb : ∀ l, U l -> β l = some l) : renO β o = o := by
 cases o with
 | cells T sz xs => simp only [renO, a9i (U := U) h hb]
 | map es clk => simp only [renO, e4m (U := U) h hb]
 | iter x a b c => simp only [renO, c0m (U := U) h hb]
 | dead => rfl
theorem e6b (h : ninO U o) (hb : ∀ l, U l -> β l = some l) (hU : ∀ l, U l -> U' l) : innO β U' o := by
 cases o with
 | cells T sz xs => exact a9s (U := U) h hb hU
 | map es clk => exact e5x (U := U) h hb hU
 | iter x a b c => exact c1c (U := U) h hb hU
 | dead => trivial
mutual
theorem b5k (hU : ∀ l, U l -> U' l) {a : FV} (h : nin U a) : nin U' a := by
 match a with
 | .ptr l sz i off => exact hU l h
 | .sl l sz off len => exact hU l h
 | .mp l => exact hU l h
 | .agg cs => exact a7r hU (as := cs) h
 | .tup cs => exact a7r hU (as := cs) h
 | .clo f x y => exact ⟨a7r hU (as := x) h.1, a7r hU (as := y) h.2⟩
 | .list .. => exact h
 | .ref .. => exact h
 | .undef => trivial
 | .int .. => trivial
 | .bool _ => trivial
 | .str _ => trivial
 | .nilp => trivial
 | .nils => trivial
 | .nilm => trivial
 | .nilf => trivial
 | .emp => trivial
theorem a7r (hU : ∀ l, U l -> U' l) {as : List FV} (h : nins U as) : nins U' as := by
 match as with
 | [] => trivial
 | a :: as => exact ⟨b5k hU h.1, a7r hU h.2⟩
end
end
theorem g2s (b : List (Loc × Option Loc)) (hinj : injB (bk b) (L.map Prod.fst) = true)
 (hA : ∀ l, A l ≠ none -> bk b l = some l /\ ∀ p ∈ L, p.1 ≠ l /\ bk b p.1 ≠ some l) (hcl : Clo A) (hs : HSub A H) (hc : ∀ l, c.L l -> A l ≠ none)
 (hv : a7m (bk b) (fun l => ext (hpL L) A l ≠ none) vs1 vs) (ht : simT (bk b) (fun l => ext (hpL L) A l ≠ none) vs.length tm tm1) (hH : simH (bk b) (fun l => ext (hpL L) A l ≠ none) H L) : Gk c (Fs.mk vs1 tm1 (ext (hpL L) A) ix1) ⟨vs, tm, H, ix⟩ := by
 obtain ⟨g1, g2⟩ := b6f hv
 have hdom : ∀ l, hpL L l ≠ none -> l ∈ L.map Prod.fst := fun l hl => by
  cases h : hpL L l with
  | none => exact absurd h hl
  | some o => exact A1t.2 ⟨_, b7d L l o h, rfl⟩
 have hAE : ∀ l, A l ≠ none -> ext (hpL L) A l ≠ none := fun l hl => by
  obtain ⟨o, ho⟩ := A0x.1 hl
  simp [a1m, ho]
 have hEn : ∀ l, A l = none -> ext (hpL L) A l = hpL L l := fun l hl => by simp [a1m, hl]
 refine f0h (bk b) g1 (fun t => ?_) (fun l o ho => ?_) (fun l l' k h1 h2 e1 e2 => ?_) (fun l hl _ => ⟨hAE l (hc l hl), (hA l (hc l hl)).1⟩)
 . simp only [Fs.get]
   rw [g1]
   split
   . rename_i hlt
     exact g2 t hlt
   . rcases c0g ht t with h | h
     . exact .inl h
     . exact h.2
 . have ho : ext (hpL L) A l = some o := ho
   cases e : A l with
   | some o' =>
     have : o' = o := by simpa [a1m, e] using ho
     subst this
     have hne : A l ≠ none := by simp [e]
     have ho' := hcl l o' e
     refine .inr (.inl ⟨l, (hA l hne).1, ?_, e6b ho' (fun k hk => (hA k hk).1) hAE⟩)
     rw [e4n ho' fun k hk => (hA k hk).1]
     exact hs l o' e
   | none =>
     rw [hEn l e] at ho
     have h1 := c0h hH _ (b7d L l o ho)
     unfold simO at h1
     split at h1
     . rename_i k hk; exact .inr (.inl ⟨k, hk, h1.1, h1.2⟩)
     . rename_i hk
       split at h1
       . rename_i T sz e; exact .inr (.inr ⟨hk, T, sz, e⟩)
       . exact h1.elim
 . have h1 : ext (hpL L) A l ≠ none := h1
   have h2 : ext (hpL L) A l' ≠ none := h2
   by_cases a1 : A l = none <;> by_cases a2 : A l' = none
   . rw [hEn l a1] at h1
     rw [hEn l' a2] at h2
     exact c1d hinj l (hdom l h1) l' (hdom l' h2) k e1 e2
   . have := (hA l' a2).1
     rw [this] at e2
     obtain rfl := A5o e2
     rw [hEn l a1] at h1
     obtain ⟨p, hp, rfl⟩ := A1t.1 (hdom l h1)
     exact absurd e1 ((hA _ a2).2 p hp).2
   . have := (hA l a1).1
     rw [this] at e1
     obtain rfl := A5o e1
     rw [hEn l' a2] at h2
     obtain ⟨p, hp, rfl⟩ := A1t.1 (hdom l' h2)
     exact absurd e2 ((hA _ a1).2 p hp).2
   . have q1 := (hA l a1).1
     have q2 := (hA l' a2).1
     rw [q1] at e1
     rw [q2] at e2
     exact (A5o e1).trans (A5o e2).symm
section
variable {P : Program} {c : Cfg} {Q : Exit -> Fs -> Prop} {s : Fs} {K : Fs -> Prop} {ops : Array Oper} {o : Oper} {rest : List Oper}
theorem h0v (nv n : Nat) (keep : List Nat) (nm : Nat -> List Nat -> Loc) (hf : P.funcs[f]? = some fn) (hb : fn.body = some code) (hn : fn.ntmps = n) (hres : fn.results.toList = res)
 (hargs : args.length <= nv) (hnv : nv <= n) (h : a0z P ⟨n, keep, nm, G, fun l => H l ≠ none⟩ code (KEnd P res r H') (Fs.init nv args H)) : FC P G f args H r H' := by
 subst hn hres
 exact h0u (c := ⟨fn.ntmps, keep, nm, G, fun l => H l ≠ none⟩) hf hb rfl hargs hnv (fun _ h => h) h
theorem FC.less {H1 : Heap} (h : FC P G f args H r H1) (hs : HSub H' H1) (hk : ∀ l, H l ≠ none -> H' l ≠ none) (hr : nin (fun l => H' l ≠ none) r) (hc : Clo H') : FC P G f args H r H' := by
 intro w F m vs hF hG hv hH
 refine (h w F m vs hF hG hv hH).mono ?_
 rintro e w' ⟨v, F', m', he, k1, k2, k3, k4, k5, k6, k7⟩
 have live : ∀ l, Live H' m' l -> Live H1 m' l := fun l ⟨o, g1, g2⟩ => ⟨o, hs l o g1, g2⟩
 exact ⟨v, F', m', he, k1, k2, fun l hl => ⟨(k3 l hl).1, hk l hl⟩, k4.nin hr, ⟨fun l o ho => (k5.obj l o (hs l o ho)).nin (hc l o ho), fun l l' hl hl' => k5.inj l l' (live l hl) (live l' hl'), fun l hl => k5.old l (live l hl)⟩, fun l hl => k6 l (live l hl), k7⟩
end
def FCr (P : Program) (G : List (Nat × List Value)) (f : FuncId) (args : List FV) (H : Heap) (Φ : FV -> Heap -> Prop) : Prop :=
 ∀ (w : World) (F : Nat -> Prop) (m : Loc -> Nat × Nat) (vs : List Value), (∀ y, F y -> y < w.heap.size) -> a5g G F w -> RFs w F (fun l => H l ≠ none) m args vs -> HeapR w F m H ->
   Calls P f vs.toArray w fun e w' => ∃ (r : FV) (H' : Heap) (v : Value) (F' : Nat -> Prop) (m' : Loc -> Nat × Nat), Φ r H' /\ e = .returned v /\ (∀ y, F y -> F' y) /\ (∀ y, F' y -> (F y \/ w.heap.size <= y) /\ y < w'.heap.size) /\
    (∀ l, H l ≠ none -> m' l = m l /\ H' l ≠ none) /\ RF w' F' (fun l => H' l ≠ none) m' r v /\ HeapR w' F' m' H' /\ (∀ l, Live H' m' l -> (∃ k, Live H m k /\ (m k).1 = (m' l).1) \/ w.heap.size <= (m' l).1) /\
    w.heap.size <= w'.heap.size /\ (∀ y, y < w.heap.size -> (∀ l, Live H m l -> (m l).1 ≠ y) -> w'.heap[y]? = w.heap[y]?) /\ w'.os = w.os /\ w'.tape = w.tape /\ w'.output = w.output
section
variable {P : Program} {G : List (Nat × List Value)} {f : FuncId} {args : List FV} {H H' : Heap} {r : FV} {Φ Ψ : FV -> Heap -> Prop}
theorem FCr.mono (h : FCr P G f args H Φ) (hm : ∀ r H', Φ r H' -> Ψ r H') : FCr P G f args H Ψ := by
 intro w F m vs hF hG hv hH
 refine (h w F m vs hF hG hv hH).mono ?_
 rintro e w' ⟨r, H', v, F', m', h0, h1⟩
 exact ⟨r, H', v, F', m', hm r H' h0, h1⟩
theorem FCr.fc (h : FCr P G f args H (fun r1 H1 => r1 = r /\ H1 = H')) : FC P G f args H r H' := by
 intro w F m vs hF hG hv hH
 refine (h w F m vs hF hG hv hH).mono ?_
 rintro e w' ⟨r, H', v, F', m', ⟨rfl, rfl⟩, h1⟩
 exact ⟨v, F', m', h1⟩
def Part (H H1 : Heap) (r : FV) (H' : Heap) : Prop := HSub H' H1 /\ (∀ l, H l ≠ none -> H' l ≠ none) /\ nin (fun l => H' l ≠ none) r /\ Clo H'
theorem FCr.less (h : FCr P G f args H Φ) (hs : ∀ r H1, Φ r H1 -> ∃ H', Ψ r H' /\ Part H H1 r H') : FCr P G f args H Ψ := by
 intro w F m vs hF hG hv hH
 refine (h w F m vs hF hG hv hH).mono ?_
 rintro e w' ⟨r, H1, v, F', m', h0, he, k1, k2, k3, k4, k5, k6, k7⟩
 obtain ⟨H', hψ, hs, hk, hr, hc⟩ := hs r H1 h0
 have live : ∀ l, Live H' m' l -> Live H1 m' l := fun l ⟨o, g1, g2⟩ => ⟨o, hs l o g1, g2⟩
 exact ⟨r, H', v, F', m', hψ, he, k1, k2, fun l hl => ⟨(k3 l hl).1, hk l hl⟩, k4.nin hr, ⟨fun l o ho => (k5.obj l o (hs l o ho)).nin (hc l o ho), fun l l' hl hl' => k5.inj l l' (live l hl) (live l' hl'), fun l hl => k5.old l (live l hl)⟩, fun l hl => k6 l (live l hl), k7⟩
end
section
variable {P : Program} {c : Cfg} {Q : Exit -> Fs -> Prop} {s : Fs} {K : Fs -> Prop} {ops : Array Oper} {o : Oper} {rest : List Oper} {Φ : FV -> Heap -> Prop}
def LEnd (P : Program) (res : List ResultVar) (H : Heap) (Φ : FV -> Heap -> Prop) (e : Exit) (s : Fs) : Prop :=
 (e = .normal \/ e = .ret) /\ ∃ l, resL P s res = some l /\ ∃ H', Φ (a0p l) H' /\ Part H s.H (a0p l) H'
theorem g5r {nv : Nat} (hf : P.funcs[f]? = some fn) (hb : fn.body = some code) (hN : c.N = fn.ntmps)
 (hargs : args.length <= nv) (hnv : nv <= fn.ntmps) (hL : ∀ l, H l ≠ none -> c.L l) (h : a0z P c code (LEnd P fn.results.toList H Φ) (Fs.init nv args H)) : FCr P c.G f args H Φ := by
 refine FCr.less (Φ := fun r H1 => ∃ H', Φ r H' /\ Part H H1 r H') ?_ fun r H1 h => h
 intro w F m vs hF hG hv hH
 have h' : a0z P c code (fun e s => (e = .normal \/ e = .ret) /\ ∃ s1, Wk s1 s /\ ∃ l, resL P s1 fn.results.toList = some l /\ ∃ H', Φ (a0p l) H' /\ Part H s1.H (a0p l) H') (Fs.init nv args H) :=
  a4g _ _ _ _ (fun e s ⟨he, l, h1, h2⟩ => ⟨he, s, Wk.refl s, l, h1, h2⟩) h
 refine (d0p (R := fun s1 l => ∃ H', Φ (a0p l) H' /\ Part H s1.H (a0p l) H') hf hb hN hargs hnv h' hL w F m vs hF hG hv hH).mono ?_
 rintro e w' ⟨v, s1, l, F', m', a, rfl, hR0, k1, k2, hR, hv2⟩
 refine ⟨a0p l, s1.H, v, F', m', hR0, rfl, k1, fun y hy => ⟨k2 y hy, hR.frz y hy⟩, fun l hl => ⟨hR.mfix l hl, hR.ext l hl⟩, hv2, hR.heap, fun l hl => ?_, hR.size, fun y hy hn => hR.keep y hy fun ⟨l, h1, h2⟩ => hn l h1 h2, hR.os, hR.tape, hR.output⟩
 rcases hR.own l hl with ⟨k, h1, h2⟩ | h1
 . exact .inl ⟨k, h1, h2⟩
 . exact .inr h1
theorem f1k (nv n : Nat) (keep : List Nat) (nm : Nat -> List Nat -> Loc) (hf : P.funcs[f]? = some fn) (hb : fn.body = some code) (hn : fn.ntmps = n) (hres : fn.results.toList = res)
 (hargs : args.length <= nv) (hnv : nv <= n) (h : a0z P ⟨n, keep, nm, G, fun l => H l ≠ none⟩ code (LEnd P res H Φ) (Fs.init nv args H)) : FCr P G f args H Φ := by
 subst hn hres
 exact g5r (c := ⟨fn.ntmps, keep, nm, G, fun l => H l ≠ none⟩) hf hb rfl hargs hnv (fun _ h => h) h
theorem g5s (nv n : Nat) (keep : List Nat) (nm : Nat -> List Nat -> Loc) (hf : P.funcs[f]? = some fn) (hb : fn.body = some code) (hn : fn.ntmps = n) (hres : fn.results.toList = res)
 (hargs : args.length <= nv) (hnv : nv <= n) (h : a0z P ⟨n, keep, nm, G, fun l => H l ≠ none⟩ code (LEnd P res H (fun r1 H1 => r1 = r /\ H1 = H')) (Fs.init nv args H)) : FC P G f args H r H' :=
 (f1k nv n keep nm hf hb hn hres hargs hnv h).fc
def LFin (H : Heap) (Φ : FV -> Heap -> Prop) (H1 : Heap) : Option (List FV) -> Prop
 | some l => ∃ H', Φ (a0p l) H' /\ Part H H1 (a0p l) H'
 | none => False
theorem d8b {e : Exit} (he : e = .normal \/ e = .ret) (h : LFin H Φ s.H (resL P s res)) : LEnd P res H Φ e s := by
 unfold LFin at h
 split at h
 . rename_i l hl; exact ⟨he, l, hl, h⟩
 . exact h.elim
theorem g2b (h : LFin H Φ s.H (resL P s res)) : LEnd P res H Φ .ret s := d8b (.inr rfl) h
theorem g2c (h : LFin H Φ s.H (resL P s res)) : LEnd P res H Φ .normal s := d8b (.inl rfl) h
theorem e7t {X : Ctx} {a : Act} {w : World} {A : List FV} {K' : Act -> World -> Prop} {Q' : Exit -> Act -> World -> Prop} (hc : a0l s o = some (f, A)) (hf : fnOk P f = true) (hfc : FCr P c.G f A s.H Φ)
 (hp : ∀ d, o.dst = some d -> d < c.N) (h : Rel X c s a w) (hK : ∀ r H' s1 v w', Φ r H' -> putD c o r { s with H := H' } = some s1 -> Rel X c s1 (a.put o.dst v) w' -> K' (a.put o.dst v) w') : o.wp P a w K' Q' := by
 obtain ⟨hN, F, m, h1, h2, h⟩ := h
 unfold a0l at hc
 split at hc
 case h_2 => cases hc
 rename_i x args ts ho
 split at hc
 case h_2 => cases hc
 rename_i g first caps hx
 simp only [A5v, A0i] at hc
 obtain ⟨rfl, rfl⟩ := hc
 have hxv := a1n h x
 rw [hx] at hxv
 generalize hvx : a.eval x = vx at hxv
 cases hxv with
 | clo _ _ _ us vs g1 g2 =>
 have hargs : RFs w F (fun l => s.H l ≠ none) m (first ++ args.toList.map (rv s) ++ caps) (us ++ args.toList.map a.eval ++ vs) := (g1.append (d5s h _)).append g2
 have hrun : (execOp a.eval o).run P w = .ok (.enter g (us ++ args.toList.map a.eval ++ vs).toArray) w := by
  unfold fnOk at hf
  split at hf
  . rename_i fn hfn
    simp only [A5t, bne_iff_ne, ne_eq] at hf
    have hb : ¬ fn.body = none := fun hh => by rw [hh] at hf; simp at hf
    have e : (us ++ args.toList.map a.eval ++ vs).toArray = us.toArray ++ args.map a.eval ++ vs.toArray := by
     apply Array.ext'
     simp
    rw [e]
    simp [execOp, ho, resolve, hvx, Deferred.ofValue, invoke, callFunc, hfn, hb, hf.1]
  . cases hf
 unfold Oper.wp
 rw [hrun, Oper.upon_enter]
 refine (hfc w F m _ h.frz (h1.here h) hargs h.heap).mono ?_
 rintro e w' ⟨r, H', v, F', m', h0, rfl, k1, k2, k3, k4, k5, k6, k7, k8, k9, k10, k11⟩
 have hR := h.called k1 k2 k3 k5 k6 k7 k8 k9 k10 k11
 have hput : ∃ s1, putD c o r { s with H := H' } = some s1 := by
  unfold putD
  cases hd : o.dst with
  | none => exact ⟨_, rfl⟩
  | some d => simp only; rw [if_pos (hp d hd)]; exact ⟨_, rfl⟩
 obtain ⟨s1, hs1⟩ := hput
 refine hK r H' s1 v w' h0 hs1 ⟨by rw [b0b]; exact hN, F', m', h1.more k1, fun y hy => ?_, c0p hR hN k4 hs1⟩
 rcases (k2 y hy).1 with h' | h'
 . exact h2 y h'
 . exact .inr z2b
theorem e8g {A : List FV} (hc : a0l s o = some (f, A)) (hf : fnOk P f = true) (hp : ∀ d, o.dst = some d -> d < c.N) (hfc : FCr P c.G f A s.H Φ) :
 OWp P c o s (fun s1 => ∃ r H', Φ r H' /\ putD c o r { s with H := H' } = some s1) := by
 intro X a w K' Q' hR hK
 exact e7t hc hf hfc hp hR fun r H' s1 v w' h0 h1 h2 => hK s1 v w' ⟨r, H', h0, h1⟩ h2
theorem a9c {ob : FO} (h : A l = none) : upd (ext B A) l ob = ext (upd B l ob) A := by
 funext k
 by_cases e : k = l
 . subst e; simp [upd, ext, h]
 . simp [upd, ext, e]
theorem e7g (H : Heap) (l : Loc) (ob : FO) : ext H (upd noH l ob) = upd H l ob := by
 funext k
 by_cases e : k = l <;> simp [upd, ext, e, noH]
theorem a0s : ext B A l = none ↔ A l = none /\ B l = none := by
 rw [a1m]
 cases A l <;> simp
theorem b7u (h : A l = none) : ext B A l = B l := by rw [a1m, h]
theorem a6h {ob : FO} (h : A l = some ob) : ext B A l = some ob := by rw [a1m, h]
theorem HSub.ext' {B1 : Heap} (hs : HSub B1 B) : HSub (ext B1 A) (ext B A) := fun k o' hk => by
 rw [a1m] at hk ⊢
 cases e : A k with
 | some o => rw [e] at hk; exact hk
 | none => rw [e] at hk; exact hs k o' hk
def Free (j : Nat) (H : Heap) : Prop := ∀ k r, k <= j -> H (k :: r) = none
theorem Free.ext' (hB : Free j B) (hA : Free j A) : Free j (ext B A) := fun k r hk => a0s.2 ⟨hA k r hk, hB k r hk⟩
theorem Free.le {i : Nat} (h : Free j H) (hi : i <= j) : Free i H := fun k r hk => h k r ya
def updL : LF -> Heap -> Heap
 | [], H => H
 | (l, o) :: r, H => upd (updL r H) l o
theorem b5a {base A : Heap} : ∀ {L : LF}, (∀ p ∈ L, ext base A p.1 = none) -> ext (updL L base) A = ext (hpL L) (ext base A)
 | [], _ => by
   funext k
   show ext base A k = _
   cases e : ext base A k with
   | none => rw [a1m, e]; rfl
   | some o => rw [a1m, e]
 | (l, o) :: r, h => by
   have ih := b5a (L := r) fun p hp => h p (by simp [hp])
   have h0 := h (l, o) yd
   show ext (upd (updL r base) l o) A = ext (upd (hpL r) l o) (ext base A)
   rw [<- a9c (a0s.1 h0).1, ih, a9c h0]
mutual
theorem a1t {U U' : Loc -> Prop} (hU : ∀ l, U l -> U' l) {o : FO} (h : ninO U o) : ninO U' o := by
 cases o with
 | cells T sz xs => exact b9d hU h
 | map es clk => exact c3q hU h
 | iter x a b c => exact b5k hU h
 | dead => trivial
theorem b9d {U U' : Loc -> Prop} (hU : ∀ l, U l -> U' l) {xs : List (List FV)} (h : a1h U xs) : a1h U' xs := by
 match xs with
 | [] => trivial
 | x :: xs => exact ⟨a7r hU h.1, b9d hU h.2⟩
theorem c3q {U U' : Loc -> Prop} (hU : ∀ l, U l -> U' l) {xs : List (FV × FV × Nat)} (h : nine U xs) : nine U' xs := by
 match xs with
 | [] => trivial
 | x :: xs => exact ⟨⟨b5k hU h.1.1, b5k hU h.1.2⟩, c3q hU h.2⟩
end
theorem f0i {base : Heap} (b : List (Loc × Option Loc)) (hinj : injB (bk b) (L.map Prod.fst) = true)
 (hN : ∀ n ∈ L.map Prod.fst ++ b.map Prod.fst ++ b.filterMap Prod.snd, ext base A n = none) (hcl : Clo (ext base A)) (hs : HSub (ext base A) H) (hc : ∀ l, c.L l -> ext base A l ≠ none)
 (hv : a7m (bk b) (fun l => ext (updL L base) A l ≠ none) vs1 vs) (ht : simT (bk b) (fun l => ext (updL L base) A l ≠ none) vs.length tm tm1) (hH : simH (bk b) (fun l => ext (updL L base) A l ≠ none) H L) : Gk c (Fs.mk vs1 tm1 (ext (updL L base) A) ix1) ⟨vs, tm, H, ix⟩ := by
 have e := b5a (L := L) (base := base) (A := A) fun p hp => hN _ z2t
 rw [e] at hv ht hH ⊢
 have hbk : ∀ (b : List (Loc × Option Loc)) (l : Loc), (∀ p ∈ b, p.1 ≠ l) -> bk b l = some l := by
  intro b
  induction b with
  | nil => intro l _; rfl
  | cons p b ih =>
    obtain ⟨k, o⟩ := p
    intro l h
    have h1 : l ≠ k := fun e => h (k, o) yd e.symm
    simp only [bk, h1, if_false]
    exact ih l fun p hp => h p (by simp [hp])
 have hbk2 : ∀ (b : List (Loc × Option Loc)) (l k : Loc), bk b l = some k -> k = l \/ k ∈ b.filterMap Prod.snd := by
  intro b
  induction b with
  | nil => intro l k h; exact .inl (A5o h).symm
  | cons p b ih =>
    obtain ⟨q, o⟩ := p
    intro l k h
    simp only [bk] at h
    split at h
    . right; simp [A4i, h]
    . rcases ih l k h with h | h
      . exact .inl h
      . right
        cases o <;> simp [A4i, h]
 refine g2s b hinj (fun l hl => ⟨hbk b l fun p hp e' => ?_, fun p hp => ⟨fun e' => ?_, fun e' => ?_⟩⟩) hcl hs hc hv ht hH
 . exact hl (e' ▸ hN p.1 (by simp only [A0o, A1t]; exact .inl (.inr ⟨p, hp, rfl⟩)))
 . exact hl (e' ▸ hN p.1 z2t)
 . rcases hbk2 b _ _ e' with h | h
   . exact hl (h ▸ hN p.1 z2t)
   . exact hl (hN l (by simp only [A0o]; exact .inr h))
end
def z0v := cj @a3r @a0s
def HP (L : LF) (B A : Heap) : Heap := ext (updL L B) A
theorem e2n : noH = HP [] noH noH := by funext k; rfl
theorem a4l (B : Heap) : updL [] B = B := rfl
theorem a3g (l : Loc) (o : FO) (r : LF) (B : Heap) (k : Loc) : updL ((l, o) :: r) B k = if k = l then some o else updL r B k := rfl
theorem a0q (l : Loc) : noH l = none := id (Eq.refl none)
section
variable {L : LF} {B A : Heap} {l : Loc} {ob : FO}
theorem a7j (h : A l = none) : HP L B A l = updL L B l := b7u h
theorem a5q (h : A l = some ob) : HP L B A l = some ob := a6h h
def setL (l : Loc) (o : FO) : LF -> LF
 | [] => [(l, o)]
 | (k, x) :: r => if l = k then (k, o) :: r else (k, x) :: setL l o r
theorem b0c : setL l ob [] = [(l, ob)] := rfl
theorem a7n (k : Loc) (x : FO) (r : LF) : setL l ob ((k, x) :: r) = if l = k then (k, ob) :: r else (k, x) :: setL l ob r := rfl
theorem c2q : ∀ L : LF, updL (setL l ob L) B = upd (updL L B) l ob
 | [] => rfl
 | (k, x) :: r => by
   have ih := c2q r
   funext q
   simp only [setL]
   split
   . rename_i e
     subst e
     simp only [updL, upd]
     split <;> rfl
   . rename_i e
     simp only [updL]
     rw [ih]
     simp only [upd]
     by_cases h1 : q = k
     . subst h1; simp [A4f e]
     . simp [h1]
theorem b4p (h : A l = none) : upd (HP L B A) l ob = HP (setL l ob L) B A := by
 unfold HP
 rw [c2q, a9c h]
theorem b8k : HP [] (updL L B) A = HP L B A := rfl
theorem a2c : HP L B A l = none ↔ A l = none /\ updL L B l = none := a0s
end
def a2n : LF -> LF -> LF
 | [], L => L
 | (l, o) :: r, L => a2n r (setL l o L)
theorem b6h (L : LF) : a2n [] L = L := rfl
theorem b3c (l : Loc) (o : FO) (r L : LF) : a2n ((l, o) :: r) L = a2n r (setL l o L) := rfl
def delL : List Loc -> LF -> LF
 | _, [] => []
 | d, (l, o) :: r => if d.contains l then delL d r else (l, o) :: delL d r
theorem c2b (d : List Loc) : delL d [] = [] := rfl
theorem b7y (d : List Loc) (l : Loc) (o : FO) (r : LF) : delL d ((l, o) :: r) = if d.contains l then delL d r else (l, o) :: delL d r := rfl
theorem c2a : ∀ (L : LF), delL [] L = L
 | [] => rfl
 | (l, o) :: r => by simp [delL, c2a r]
structure Bs (L0 : Loc -> Prop) (j : Nat) (B A : Heap) : Prop where
 fb : ∀ k r, k <= j -> B (k :: r) = none
 fa : ∀ k r, k <= j -> A (k :: r) = none
 clo : Clo (ext B A)
 lent : ∀ l, L0 l -> ext B A l ≠ none
theorem Bs.pc (j : Nat) : Bs (fun _ => False) j noH noH := ⟨fun _ _ _ => rfl, fun _ _ _ => rfl, fun _ _ h => zr, fun _ h => h.elim⟩
def hdN (j : Nat) (ns : List Loc) : Bool := ns.all fun n => match n with | k :: _ => k == j | [] => false
theorem a4z {ns : List Loc} (h : hdN j ns = true) : ∀ n ∈ ns, ∃ r, n = j :: r := fun n hn => by
 have := List.all_eq_true.1 h n hn
 match n with
 | [] => simp at this
 | k :: r =>
   simp only [beq_iff_eq] at this
   exact ⟨r, by rw [this]⟩
theorem a3i {B : Heap} {k : Loc} : ∀ {L : LF}, (∀ p ∈ L, p.1 ≠ k) -> updL L B k = B k
 | [], _ => rfl
 | (l, o) :: r, h => by
   have : k ≠ l := fun e => h (l, o) yd e.symm
   simp only [updL, upd, this, if_false]
   exact a3i fun p hp => h p (by simp [hp])
theorem a4k {B : Heap} {k : Loc} {o : FO} : ∀ {L : LF}, updL L B k = some o -> (k, o) ∈ L \/ ((∀ p ∈ L, p.1 ≠ k) /\ B k = some o)
 | [], h => .inr ⟨fun _ hp => (by cases hp), h⟩
 | (l, x) :: r, h => by
   simp only [updL, upd] at h
   split at h
   . rename_i e; subst e; obtain rfl := A5o h; exact .inl yd
   . rename_i e
     rcases a4k h with h | ⟨h, h'⟩
     . exact .inl (by simp [h])
     . refine .inr ⟨fun p hp => ?_, h'⟩
       rcases A0m.1 hp with rfl | hp
       . exact fun e' => e e'.symm
       . exact h p hp
theorem b7c (fb : ∀ k r, k <= j -> B (k :: r) = none) (hl : hdN j (L.map Prod.fst) = true) : HSub (ext B A) (HP L B A) := by
 refine HSub.ext' fun k o hk => ?_
 rw [a3i fun p hp e => ?_]
 . exact hk
 . obtain ⟨r, hr⟩ := a4z hl p.1 (A1t.2 ⟨p, hp, rfl⟩)
   rw [<- e, hr, fb j r (A5s _)] at hk
   cases hk
theorem gk2 {L1 : LF} {A1 : Heap} (b : List (Loc × Option Loc)) (hb : Bs c.L j B A1) (hA : A1 = A) (hn : hdN j (L1.map Prod.fst ++ b.map Prod.fst ++ b.filterMap Prod.snd) = true) (hl : hdN j (L.map Prod.fst) = true)
 (hinj : injB (bk b) (L1.map Prod.fst) = true) (hv : a7m (bk b) (fun l => HP L1 B A1 l ≠ none) vs1 vs) (ht : simT (bk b) (fun l => HP L1 B A1 l ≠ none) vs.length tm tm1) (hH : simH (bk b) (fun l => HP L1 B A1 l ≠ none) (HP L B A) L1) : Gk c (Fs.mk vs1 tm1 (HP L1 B A1) ix1) ⟨vs, tm, HP L B A, ix⟩ := by
 subst hA
 refine f0i b hinj (fun n hn' => ?_) hb.clo (b7c hb.fb hl) hb.lent hv ht hH
 obtain ⟨r, rfl⟩ := a4z hn n hn'
 exact a0s.2 ⟨hb.fa j r (A5s _), hb.fb j r (A5s _)⟩
def mSl (l1 : Loc) : FV -> List (Loc × Option Loc)
 | .sl l _ _ _ => if l1 = l then [] else [(l1, some l)]
 | .nils => [(l1, none)]
 | _ => []
def mPt (l1 : Loc) : FV -> List (Loc × Option Loc)
 | .ptr l _ _ _ => if l1 = l then [] else [(l1, some l)]
 | _ => []
def mMp (l1 : Loc) : FV -> List (Loc × Option Loc)
 | .mp l => if l1 = l then [] else [(l1, some l)]
 | _ => []
def mV : FV -> FV -> List (Loc × Option Loc)
 | .sl l1 _ _ _, v => mSl l1 v
 | .ptr l1 _ _ _, v => mPt l1 v
 | .mp l1, v => mMp l1 v
 | _, _ => []
def mVs : List FV -> List FV -> List (Loc × Option Loc)
 | v1 :: r1, v :: r => mV v1 v ++ mVs r1 r
 | _, _ => []
theorem e5g (v1 v : FV) (r1 r : List FV) : mVs (v1 :: r1) (v :: r) = mV v1 v ++ mVs r1 r := rfl
theorem f4u (r : List FV) : mVs [] r = [] := rfl
def mT (tm : Asg) : Asg -> List (Loc × Option Loc)
 | [] => []
 | (t, v) :: r => mV v (lk tm t) ++ mT tm r
theorem g1t (tm : Asg) : mT tm [] = [] := rfl
theorem f4v (tm r : Asg) (t : Nat) (v : FV) : mT tm ((t, v) :: r) = mV v (lk tm t) ++ mT tm r := rfl
def setV : List (Nat × FV) -> List FV -> List FV
 | [], vs => vs
 | (k, v) :: r, vs => setV r (vs.set k v)
theorem c0i (vs : List FV) : setV [] vs = vs := rfl
theorem b6g (k : Nat) (v : FV) (r : List (Nat × FV)) (vs : List FV) : setV ((k, v) :: r) vs = setV r (vs.set k v) := rfl
def a6s (kt : List Nat) (tm : Asg) : Asg := kt.map fun t => (t, lk tm t)
section
variable {P : Program} {c : Cfg} {Q : Exit -> Fs -> Prop} {vs : List FV} {tm : Asg} {L : LF} {B A : Heap} {ix : List Nat}
def lpS {σ : Type} (vs : List FV) (tm : Asg) (L : LF) (B : Heap) (sv : σ -> List (Nat × FV)) (kt : List Nat) (st : σ -> Asg) (dl : List Loc) (sh : σ -> LF) (fA : σ -> Heap) (x : σ) : Fs :=
 ⟨setV (sv x) vs, st x ++ a6s kt tm, HP (a2n (sh x) (delL dl L)) B (fA x), []⟩
theorem a0e {body : Code} (sv : σ -> List (Nat × FV)) (kt : List Nat) (st : σ -> Asg) (dl : List Loc) (sh : σ -> LF) (fA : σ -> Heap) (μ : σ -> Nat) (x0 : σ)
 (h0 : Gk c (lpS vs tm L B sv kt st dl sh fA x0) ⟨vs, tm, HP L B A, ix⟩) (round : ∀ x, a0z P c body (c2o c (lpS vs tm L B sv kt st dl sh fA) μ x Q) (lpS vs tm L B sv kt st dl sh fA x)) :
 a0z P c (.loop body) Q ⟨vs, tm, HP L B A, ix⟩ := a5f _ μ x0 h0 round
theorem gk3 {vs0 : List FV} {tm0 : Asg} {L0 : LF} {sv : σ -> List (Nat × FV)} {kt : List Nat} {st : σ -> Asg} {dl : List Loc} {sh : σ -> LF} {fA : σ -> Heap} {x : σ} (b : List (Loc × Option Loc)) (hb : Bs c.L j B (fA x)) (hA : fA x = A)
 (hn : hdN j ((a2n (sh x) (delL dl L0)).map Prod.fst ++ (b ++ mVs (setV (sv x) vs0) vs ++ mT tm (st x ++ a6s kt tm0)).map Prod.fst ++ (b ++ mVs (setV (sv x) vs0) vs ++ mT tm (st x ++ a6s kt tm0)).filterMap Prod.snd) = true) (hl : hdN j (L.map Prod.fst) = true)
 (hinj : injB (bk (b ++ mVs (setV (sv x) vs0) vs ++ mT tm (st x ++ a6s kt tm0))) ((a2n (sh x) (delL dl L0)).map Prod.fst) = true)
 (hv : a7m (bk (b ++ mVs (setV (sv x) vs0) vs ++ mT tm (st x ++ a6s kt tm0))) (fun l => HP (a2n (sh x) (delL dl L0)) B (fA x) l ≠ none) (setV (sv x) vs0) vs)
 (ht : simT (bk (b ++ mVs (setV (sv x) vs0) vs ++ mT tm (st x ++ a6s kt tm0))) (fun l => HP (a2n (sh x) (delL dl L0)) B (fA x) l ≠ none) vs.length tm (st x ++ a6s kt tm0))
 (hH : simH (bk (b ++ mVs (setV (sv x) vs0) vs ++ mT tm (st x ++ a6s kt tm0))) (fun l => HP (a2n (sh x) (delL dl L0)) B (fA x) l ≠ none) (HP L B A) (a2n (sh x) (delL dl L0))) : Gk c (lpS vs0 tm0 L0 B sv kt st dl sh fA x) ⟨vs, tm, HP L B A, ix⟩ :=
 gk2 _ hb hA hn hl hinj hv ht hH
end
section
variable {P : Program} {c : Cfg} {Q : Exit -> Fs -> Prop} {Φ : FV -> Heap -> Prop} {H : Heap} {L : LF} {B A : Heap} {l : List FV} {j : Nat}
theorem a4y (hb : Bs (fun l => H l ≠ none) j B A) (hl : hdN j (L.map Prod.fst) = true) (hΦ : Φ (a0p l) (HP [] B A)) (hr : nin (fun l => HP [] B A l ≠ none) (a0p l)) : LFin H Φ (HP L B A) (some l) :=
 ⟨HP [] B A, hΦ, b7c hb.fb hl, hb.lent, hr, hb.clo⟩
theorem g7w (L1 : LF) (hb : Bs (fun l => H l ≠ none) j (updL L1 B) A) (hs : HSub (updL L1 B) (updL L B)) (hΦ : Φ (a0p l) (HP L1 B A)) (hr : nin (fun l => HP L1 B A l ≠ none) (a0p l)) : LFin H Φ (HP L B A) (some l) :=
 ⟨HP L1 B A, hΦ, HSub.ext' hs, hb.lent, hr, hb.clo⟩
def ninL (U : Loc -> Prop) : LF -> Prop
 | [] => True
 | (_, o) :: r => ninO U o /\ ninL U r
theorem a8e {U : Loc -> Prop} : ∀ {L : LF}, ninL U L -> ∀ p ∈ L, ninO U p.2
 | [], _, p, hp => by cases hp
 | (l, o) :: r, h, p, hp => by
   rcases A0m.1 hp with rfl | hp
   . exact h.1
   . exact a8e h.2 p hp
theorem Bs.call {L0 : Loc -> Prop} {A1 : Heap} (i : Nat) (hb : Bs L0 j B A1) (hi : i < j) (hl : hdN j (L.map Prod.fst) = true) (ho : ninL (fun l => HP L B A1 l ≠ none) L) (hdom : ∀ l, A l ≠ none -> A1 l ≠ none) : Bs (fun l => HP L B A l ≠ none) i (updL L B) A1 := by
 refine ⟨fun k r hk => ?_, fun k r hk => hb.fa k r ya, fun l o h => ?_, fun l h => ?_⟩
 . rw [a3i fun p hp e => ?_]
   . exact hb.fb k r ya
   . obtain ⟨q, hq⟩ := a4z hl p.1 (A1t.2 ⟨p, hp, rfl⟩)
     rw [e] at hq
     simp only [A1q] at hq
     omega
 . have hcase : A1 l = some o \/ (A1 l = none /\ updL L B l = some o) := by
    rw [a1m] at h
    cases e : A1 l with
    | some o' => rw [e] at h; exact .inl h
    | none => rw [e] at h; exact .inr ⟨rfl, h⟩
   have hup : ∀ q, ext B A1 q ≠ none -> ext (updL L B) A1 q ≠ none := fun q hq => by
    obtain ⟨o', ho'⟩ := A0x.1 hq
    have := b7c (L := L) (A := A1) hb.fb hl q o' ho'
    unfold HP at this
    simp [this]
   rcases hcase with e | ⟨e, h⟩
   . exact a1t hup (hb.clo l o (a6h e))
   . rcases a4k h with h | ⟨_, h⟩
     . exact a8e ho _ h
     . exact a1t hup (hb.clo l o (by rw [b7u e]; exact h))
 . intro hn
   rw [a0s] at hn
   refine h (a0s.2 ⟨?_, hn.2⟩)
   cases e : A l with
   | none => rfl
   | some o => exact absurd hn.1 (hdom l z1e)
end
section
variable {P : Program}
theorem g5b (nv n : Nat) (keep : List Nat) (nm : Nat -> List Nat -> Loc) (hf : P.funcs[f]? = some fn) (hb : fn.body = some code) (hn : fn.ntmps = n) (hres : fn.results.toList = res)
 (hargs : args.length <= nv) (hnv : nv <= n) (h : a0z P ⟨n, keep, nm, G, fun _ => False⟩ code (PEnd P res r) (Fs.init nv args (HP [] noH noH))) : PC P G f args r := g5a nv n keep nm hf hb hn hres hargs hnv (by rw [e2n]; exact h)
theorem f8e (nv n : Nat) (keep : List Nat) (nm : Nat -> List Nat -> Loc) (hf : P.funcs[f]? = some fn) (hb : fn.body = some code) (hn : fn.ntmps = n) (hres : fn.results.toList = res)
 (hargs : args.length <= nv) (hnv : nv <= n) (h : a0z P ⟨n, keep, nm, G, fun _ => False⟩ code (NEnd P res r) (Fs.init nv args (HP [] noH noH))) : PCn P G f args r := g4z nv n keep nm hf hb hn hres hargs hnv (by rw [e2n]; exact h)
end
theorem yq (fn : Func) (res : List ResultVar) (nv n : Nat) (keep : List Nat) (j : Nat) (h : a0z P ⟨n, keep, fun d ix => j :: d :: ix, G, fun _ => False⟩ code (PEnd P res r) (Fs.init nv args (HP [] noH noH))) (hf : P.funcs[f]? = some fn := by kernel_rfl) (hb : fn.body = some code := by rfl) (hn : fn.ntmps = n := by rfl) (hr : fn.results.toList = res := by rfl) (ha : args.length ≤ nv := by simp) (hv : nv ≤ n := by decide) : PC P G f args r := g5b nv n keep _ hf hb hn hr ha hv h
theorem z2u (fn : Func) (res : List ResultVar) (nv n : Nat) (keep : List Nat) (j : Nat) (h : a0z P ⟨n, keep, fun d ix => j :: d :: ix, G, fun _ => False⟩ code (NEnd P res r) (Fs.init nv args (HP [] noH noH))) (hf : P.funcs[f]? = some fn := by kernel_rfl) (hb : fn.body = some code := by rfl) (hn : fn.ntmps = n := by rfl) (hr : fn.results.toList = res := by rfl) (ha : args.length ≤ nv := by simp) (hv : nv ≤ n := by decide) : PCn P G f args r := f8e nv n keep _ hf hb hn hr ha hv h
def yw := cj @a3g @a4l
mutual
def asD : FV -> FV -> Prop
 | .nils, r => r = .nils \/ ∃ sz, r = .list sz []
 | .agg cs, r => ∃ ds, r = .agg ds /\ asDs cs ds
 | .tup cs, r => ∃ ds, r = .tup ds /\ asDs cs ds
 | .list sz xs, r => ∃ ys, r = .list sz ys /\ asDss xs ys
 | v, r => r = v
def asDs : List FV -> List FV -> Prop
 | [], l => l = []
 | x :: xs, l => ∃ y ys, l = y :: ys /\ asD x y /\ asDs xs ys
def asDss : List (List FV) -> List (List FV) -> Prop
 | [], l => l = []
 | x :: xs, l => ∃ y ys, l = y :: ys /\ asDs x y /\ asDss xs ys
end
section
variable {w w' : World} {F F' : Nat -> Prop} {U U' : Loc -> Prop} {m m' : Loc -> Nat × Nat} {P : Program}
theorem a8q : ∀ {xs ys : List FV}, asDs xs ys -> ys.length = xs.length
 | [], ys, h => by simp only [asDs] at h; subst h; rfl
 | x :: xs, ys, h => by
   obtain ⟨y, ys', rfl, _, h2⟩ := h
   simp [a8q h2]
theorem b4n : ∀ {xs ys : List (List FV)}, asDss xs ys -> ys.length = xs.length
 | [], ys, h => by simp only [asDss] at h; subst h; rfl
 | x :: xs, ys, h => by
   obtain ⟨y, ys', rfl, _, h2⟩ := h
   simp [b4n h2]
theorem b9u {sz : Nat} : ∀ {xs ys : List (List FV)}, asDss xs ys -> (∀ x ∈ xs, x.length = sz) -> ∀ y ∈ ys, y.length = sz
 | [], ys, h, _ => by simp only [asDss] at h; subst h; intro y hy; cases hy
 | x :: xs, ys, h, hl => by
   obtain ⟨y, ys', rfl, h1, h2⟩ := h
   intro z hz
   rcases A0m.1 hz with rfl | hz
   . rw [a8q h1]; exact hl x yd
   . exact b9u h2 (fun x hx => hl x wo) z hz
mutual
theorem RF.asD {x y : FV} {v : Value} (h : RF w F U m x v) (hr : asD x y) : RF w F U m y v := by
 match x with
 | .nils =>
   cases h with
   | nils =>
   rcases hr with rfl | ⟨sz, rfl⟩
   . exact .nils
   . exact .list sz [] none 0 [] yd yd yd .nil
 | .agg cs =>
   cases h with
   | agg _ vs h =>
   obtain ⟨ds, rfl, hds⟩ := hr
   exact .agg ds vs (RFs.asD h hds)
 | .tup cs =>
   cases h with
   | tup _ vs h =>
   obtain ⟨ds, rfl, hds⟩ := hr
   exact .tup ds vs (RFs.asD h hds)
 | .list sz xs =>
   cases h with
   | list _ _ A cap vs hl hc hm h =>
   obtain ⟨ys, rfl, hys⟩ := hr
   have e := b4n hys
   rw [<- e] at hc ⊢
   refine .list sz ys A cap vs (b9u hys hl) hc (fun hne => hm fun e' => ?_) (RFs.asDss h hys)
   subst e'
   exact hne (A5u (by rw [e]; rfl))
 | .undef => have e : y = .undef := hr; subst e; exact h
 | .int k n => have e : y = .int k n := hr; subst e; exact h
 | .bool b => have e : y = .bool b := hr; subst e; exact h
 | .str s => have e : y = .str s := hr; subst e; exact h
 | .ref cs => have e : y = .ref cs := hr; subst e; exact h
 | .ptr l sz i off => have e : y = .ptr l sz i off := hr; subst e; exact h
 | .nilp => have e : y = .nilp := hr; subst e; exact h
 | .sl l sz off len => have e : y = .sl l sz off len := hr; subst e; exact h
 | .mp l => have e : y = .mp l := hr; subst e; exact h
 | .nilm => have e : y = .nilm := hr; subst e; exact h
 | .clo f a b => have e : y = .clo f a b := hr; subst e; exact h
 | .nilf => have e : y = .nilf := hr; subst e; exact h
 | .emp => have e : y = .emp := hr; subst e; exact h
theorem RFs.asD {xs ys : List FV} {vs : List Value} (h : RFs w F U m xs vs) (hr : asDs xs ys) : RFs w F U m ys vs := by
 match xs with
 | [] => have e : ys = [] := hr; subst e; exact h
 | a :: as =>
   cases h with
   | cons _ v _ vs h hs =>
   obtain ⟨y, ys', rfl, h1, h2⟩ := hr
   exact .cons y v ys' vs (RF.asD h h1) (RFs.asD hs h2)
theorem RFs.asDss {xs ys : List (List FV)} {vs : List Value} (h : RFs w F U m xs.flatten vs) (hr : asDss xs ys) : RFs w F U m ys.flatten vs := by
 match xs with
 | [] => have e : ys = [] := hr; subst e; exact h
 | a :: as =>
   rw [A0l] at h
   obtain ⟨v1, v2, rfl, h1, h2⟩ := RFs.part _ _ h
   obtain ⟨y, ys', rfl, h3, h4⟩ := hr
   exact (RFs.asD h1 h3).append (RFs.asDss h2 h4)
end
theorem PC.deep {r' : FV} (h : PC P G f args r) (hr : asD r r') : PC P G f args r' := by
 intro w F m vs hF hG hv hH
 refine (h w F m vs hF hG hv hH).mono ?_
 rintro e w' ⟨v, F', m', he, k1, k2, k3, k4, k5⟩
 exact ⟨v, F', m', he, k1, k2, k3, k4.asD hr, k5⟩
end
mutual
theorem a5p : ∀ v : FV, asD v v
 | .nils => .inl rfl
 | .agg cs => ⟨cs, rfl, b2z cs⟩
 | .tup cs => ⟨cs, rfl, b2z cs⟩
 | .list sz xs => ⟨xs, rfl, b9v xs⟩
 | .undef => rfl
 | .int _ _ => rfl
 | .bool _ => rfl
 | .str _ => rfl
 | .ref _ => rfl
 | .ptr .. => rfl
 | .nilp => rfl
 | .sl .. => rfl
 | .mp _ => rfl
 | .nilm => rfl
 | .clo .. => rfl
 | .nilf => rfl
 | .emp => rfl
theorem b2z : ∀ l : List FV, asDs l l
 | [] => rfl
 | x :: xs => ⟨x, xs, rfl, a5p x, b2z xs⟩
theorem b9v : ∀ l : List (List FV), asDss l l
 | [] => rfl
 | x :: xs => ⟨x, xs, rfl, b2z x, b9v xs⟩
end
theorem a8m (H A : Heap) (l : Loc) (ob : FO) : ext H (upd A l ob) = upd (ext H A) l ob := by
 funext k
 by_cases e : k = l <;> simp [upd, ext, e]
def fzL (l0 : Loc) (sz0 : Nat) (xs0 : List (List FV)) : LF -> LF
 | [] => []
 | (k, o) :: r => if k = l0 then fzL l0 sz0 xs0 r else (k, fzO l0 sz0 xs0 o) :: fzL l0 sz0 xs0 r
theorem f6a (l0 : Loc) (sz0 : Nat) (xs0 : List (List FV)) : fzL l0 sz0 xs0 [] = [] := rfl
theorem e6l (l0 : Loc) (sz0 : Nat) (xs0 : List (List FV)) (k : Loc) (o : FO) (r : LF) : fzL l0 sz0 xs0 ((k, o) :: r) = if k = l0 then fzL l0 sz0 xs0 r else (k, fzO l0 sz0 xs0 o) :: fzL l0 sz0 xs0 r := rfl
theorem g3a (l0 : Loc) (sz0 : Nat) (xs0 : List (List FV)) (L : LF) : fzH l0 sz0 xs0 (HP L noH noH) = HP (fzL l0 sz0 xs0 L) noH noH := by
 funext q
 show (if q = l0 then none else (updL L noH q).map (fzO l0 sz0 xs0)) = updL (fzL l0 sz0 xs0 L) noH q
 induction L with
 | nil =>
   show (if q = l0 then none else none) = none
   split <;> rfl
 | cons p r ih =>
   obtain ⟨k, o⟩ := p
   simp only [fzL, updL, upd]
   by_cases e : q = l0
   . subst e
     simp only [if_true] at ih ⊢
     split
     . exact ih
     . rename_i hk
       simp only [updL, upd, A4f hk, if_false]
       exact ih
   . simp only [e, if_false] at ih ⊢
     by_cases h1 : q = k
     . subst h1
       simp [e, updL, upd]
     . simp only [h1, if_false]
       split
       . exact ih
       . simp only [updL, upd, h1, if_false]
         exact ih
theorem f0k (l0 : Loc) (T0 : TypeId) (sz0 : Nat) (xs0 : List (List FV)) (hc : ∀ l, ¬ c.L l) (hl : HP L noH noH l0 = some (.cells T0 sz0 xs0)) (hn : nlss xs0 = true) :
 Gk c (Fs.mk (fzs l0 sz0 xs0 vs) (fzT l0 sz0 xs0 tm) (HP (fzL l0 sz0 xs0 L) noH noH) ix) ⟨vs, tm, HP L noH noH, ix⟩ := by
 rw [<- g3a]
 exact g8i l0 T0 sz0 xs0 hc hl hn
def inH (H : Heap) (l : Loc) : Prop := H l ≠ none
section
variable {P : Program} {Φ : FV -> Heap -> Prop}
theorem f8l (nv n : Nat) (keep : List Nat) (nm : Nat -> List Nat -> Loc) (hf : P.funcs[f]? = some fn) (hb : fn.body = some code) (hn : fn.ntmps = n) (hres : fn.results.toList = res)
 (hargs : args.length <= nv) (hnv : nv <= n) (h : a0z P ⟨n, keep, nm, G, inH H⟩ code (LEnd P res H Φ) (Fs.init nv args H)) : FCr P G f args H Φ := f1k nv n keep nm hf hb hn hres hargs hnv h
theorem f8m (nv n : Nat) (keep : List Nat) (nm : Nat -> List Nat -> Loc) (hf : P.funcs[f]? = some fn) (hb : fn.body = some code) (hn : fn.ntmps = n) (hres : fn.results.toList = res)
 (hargs : args.length <= nv) (hnv : nv <= n) (h : a0z P ⟨n, keep, nm, G, inH H⟩ code (LEnd P res H (fun r1 H1 => r1 = r /\ H1 = H')) (Fs.init nv args H)) : FC P G f args H r H' := g5s nv n keep nm hf hb hn hres hargs hnv h
theorem b8o {l : List FV} (hb : Bs (inH H) j B A) (hl : hdN j (L.map Prod.fst) = true) (hr : a0p l = r) (hH : HP [] B A = H') (hn : nin (inH (HP [] B A)) (a0p l)) : LFin H (fun r1 H1 => r1 = r /\ H1 = H') (HP L B A) (some l) :=
 a4y hb hl ⟨hr, hH⟩ hn
end
theorem zd {Φ : FV → Heap → Prop} (fn : Func) (res : List ResultVar) (nv n : Nat) (keep : List Nat) (j : Nat) (h : a0z P ⟨n, keep, fun d ix => j :: d :: ix, G, inH H⟩ code (LEnd P res H Φ) (Fs.init nv args H)) (hf : P.funcs[f]? = some fn := by kernel_rfl) (hb : fn.body = some code := by rfl) (hn : fn.ntmps = n := by rfl) (hr : fn.results.toList = res := by rfl) (ha : args.length ≤ nv := by simp) (hv : nv ≤ n := by decide) : FCr P G f args H Φ := f8l nv n keep _ hf hb hn hr ha hv h
theorem yv (fn : Func) (res : List ResultVar) (nv n : Nat) (keep : List Nat) (j : Nat) (h : a0z P ⟨n, keep, fun d ix => j :: d :: ix, G, inH H⟩ code (LEnd P res H (fun r1 H1 => r1 = r ∧ H1 = H')) (Fs.init nv args H)) (hf : P.funcs[f]? = some fn := by kernel_rfl) (hb : fn.body = some code := by rfl) (hn : fn.ntmps = n := by rfl) (hr : fn.results.toList = res := by rfl) (ha : args.length ≤ nv := by simp) (hv : nv ≤ n := by decide) : FC P G f args H r H' := f8m nv n keep _ hf hb hn hr ha hv h
def z0y := cj @b7h (cj @c1m (cj @b7i (cj @f6a @e6l)))
section
variable {P : Program} {s : Fs} {r : FV} {H' : Heap}
def KFin (r : FV) (H' H : Heap) : Option (List FV) -> Prop
 | some l => H = H' /\ a0p l = r
 | none => False
theorem b4o {l : List FV} : KFin r H' H (some l) = (H = H' /\ a0p l = r) := rfl
theorem d8i {e : Exit} (he : e = .normal \/ e = .ret) (h : KFin r H' s.H (resL P s res)) : KEnd P res r H' e s := by
 unfold KFin at h
 split at h
 . rename_i l hl; exact ⟨he, s, Wk.refl s, l, hl, h⟩
 . exact h.elim
theorem e9z (h : KFin r H' s.H (resL P s res)) : KEnd P res r H' .ret s := d8i (.inr rfl) h
theorem f0a (h : KFin r H' s.H (resL P s res)) : KEnd P res r H' .normal s := d8i (.inl rfl) h
theorem d1v (nv n : Nat) (keep : List Nat) (nm : Nat -> List Nat -> Loc) (hf : P.funcs[f]? = some fn) (hb : fn.body = some code) (hn : fn.ntmps = n) (hres : fn.results.toList = res)
 (hargs : args.length <= nv) (hnv : nv <= n) (h : a0z P ⟨n, keep, nm, G, inH H⟩ code (KEnd P res r H') (Fs.init nv args H)) : FC P G f args H r H' := h0v nv n keep nm hf hb hn hres hargs hnv h
end
theorem f0j (l0 : Loc) (T0 : TypeId) (sz0 : Nat) (xs0 : List (List FV)) (hc : ∀ l, c.L l -> l ≠ l0 /\ ∃ o, H l = some o /\ o ≠ .dead) (hl : H l0 = some (.cells T0 sz0 xs0)) (hn : nlss xs0 = true) :
 Gk c (Fs.mk (fzs l0 sz0 xs0 vs) (fzT l0 sz0 xs0 tm) (fzH l0 sz0 xs0 H) ix) ⟨vs, tm, H, ix⟩ := by
 rintro X a w ⟨hN, F, m, h1, h2, h⟩
 have hlent : Live H m l0 -> ¬ X.lent (m l0).1 := fun hl0 ⟨l, ⟨o, ho, hd, h0⟩, e⟩ => by
  have hne : X.H0 l ≠ none := by simp [ho]
  obtain ⟨hne0, o', ho', hd'⟩ := hc l (h1.hd l hne)
  have hm := h.mfix l hne
  exact hne0 (h.heap.inj l l0 ⟨o', ho', hd', by rw [hm]; exact h0⟩ hl0 (by rw [hm]; exact e))
 let F' : Nat -> Prop := fun b => F b \/ (Live H m l0 /\ (m l0).1 = b)
 have hF : ∀ b, F b -> F' b := fun _ h => .inl h
 have hU : ∀ l, H l ≠ none -> l ≠ l0 -> fzH l0 sz0 xs0 H l ≠ none := fun l hl' hne => by
  cases e : H l with
  | none => exact absurd e hl'
  | some o => simp [fzH, hne, e]
 have hB : FzB w F' m l0 sz0 xs0 := by
  refine ⟨hn, ?_⟩
  rcases h.heap.obj l0 _ hl with ⟨g1, g2⟩ | ⟨g0, cc, g1, g2, g3, g4, g5⟩
  . exact .inl ⟨g1, g2⟩
  . refine .inr ⟨g0, .inr ⟨⟨_, hl, by simp, g0⟩, rfl⟩, T0, cc, g1, g3, ?_⟩
    exact (g5.keep (w' := w) (F' := F') (U' := fun l => H l ≠ none) (m' := m) hF (fun _ _ => rfl) (fun _ h => h) (fun _ _ => rfl)).nameless z3a _ _
 have hlive : ∀ l, Live (fzH l0 sz0 xs0 H) m l -> l ≠ l0 /\ Live H m l := fun l ⟨o, g1, g2, g3⟩ => by
  unfold fzH at g1
  split at g1
  . cases g1
  . rename_i hne
    rw [A5q] at g1
    obtain ⟨o', g1, rfl⟩ := g1
    refine ⟨hne, o', g1, ?_, g3⟩
    rintro rfl
    exact g2 rfl
 refine ⟨hN, F', m, h1.more hF, fun y hy => ?_, ?_⟩
 . rcases hy with hy | ⟨hy, rfl⟩
   . exact h2 y hy
   . exact .inr ((h.own l0 hy).resolve_left (hlent hy))
 refine { df := h.df, vsz := by rw [a7w]; exact h.vsz, val := fun t => ?_, heap := ⟨fun l o ho => ?_, fun k k' hk hk' e => h.heap.inj k k' (hlive k hk).2 (hlive k' hk').2 e, fun k hk => ?_⟩, own := fun l hl => h.own l (hlive l hl).2,
          ext := fun l hl => hU l (h.ext l hl) (hc l (h1.hd l hl)).1, mfix := fun l hl => h.mfix l hl, frz := fun b hb => ?_, keep := h.keep, size := h.size, os := h.os, tape := h.tape, output := h.output }
 . have hv := h.val t
   have e : (Fs.mk (fzs l0 sz0 xs0 vs) (fzT l0 sz0 xs0 tm) (fzH l0 sz0 xs0 H) ix).get t = fz l0 sz0 xs0 ((Fs.mk vs tm H ix).get t) := by
    simp only [Fs.get, a7w]
    split
    . exact d0i ..
    . exact e9x ..
   rw [e]
   exact hv.fz hB hF hU
 . simp only [fzH] at ho
   split at ho
   . cases ho
   . rename_i hne
     rw [A5q] at ho
     obtain ⟨o', ho', rfl⟩ := ho
     have hob := h.heap.obj l o' ho'
     cases o' with
     | cells T sz xs =>
       simp only [fzO, OR] at hob ⊢
       rcases hob with ⟨b1, b2⟩ | ⟨b0, cc, b1, b2, b3, b4, b5⟩
       . left; subst b1; exact ⟨rfl, b2⟩
       . right
         refine ⟨b0, cc, b1, b2, d0k b3, by rw [a8k]; exact b4, ?_⟩
         rw [a8k, b4g]
         exact b5.fz hB hF hU
     | map es clk =>
       simp only [fzO, OR] at hob ⊢
       obtain ⟨b0, aa, b1, b2⟩ := hob
       exact ⟨b0, aa, b1, b2.fz hB hF hU⟩
     | iter x q r t =>
       simp only [fzO, OR] at hob ⊢
       obtain ⟨b0, aa, b1, b2⟩ := hob
       exact ⟨b0, aa, b1.fz hB hF hU, b2⟩
     | dead => trivial
 . obtain ⟨hne, hk'⟩ := hlive k hk
   obtain ⟨g1, g2⟩ := h.heap.old k hk'
   refine ⟨g1, ?_⟩
   rintro (hy | ⟨hy, e⟩)
   . exact g2 hy
   . exact hne (h.heap.inj k l0 hk' hy e.symm)
 . rcases hb with hb | ⟨hb, rfl⟩
   . exact h.frz b hb
   . exact (h.heap.old l0 hb).1
section
variable {l0 : Loc} {sz0 : Nat} {xs0 : List (List FV)} {U : Loc -> Prop}
mutual
theorem d0l (hU : ¬ U l0) : ∀ {a : FV}, nin U a -> fz l0 sz0 xs0 a = a := by
 intro a h
 match a with
 | .ptr l sz i off => have : l ≠ l0 := fun e => hU (e ▸ h); simp [fz, this]
 | .sl l sz off len => have : l ≠ l0 := fun e => hU (e ▸ h); simp [fz, this]
 | .mp l => first | rfl | (have : l ≠ l0 := fun e => hU (e ▸ h); simp [fz, this])
 | .agg cs => simp only [fz, b3p hU (as := cs) h]
 | .tup cs => simp only [fz, b3p hU (as := cs) h]
 | .clo f x y => simp only [fz, b3p hU (as := x) h.1, b3p hU (as := y) h.2]
 | .list _ xs => have h : nlss xs = true := h; simp [fz, h]
 | .ref cs => have h : nls cs = true := h; simp [fz, h]
 | .undef => rfl
 | .int .. => rfl
 | .bool _ => rfl
 | .str _ => rfl
 | .nilp => rfl
 | .nils => rfl
 | .nilm => rfl
 | .nilf => rfl
 | .emp => rfl
theorem b3p (hU : ¬ U l0) : ∀ {as : List FV}, nins U as -> fzs l0 sz0 xs0 as = as := by
 intro as h
 match as with
 | [] => rfl
 | a :: as => simp only [fzs, d0l hU h.1, b3p hU (as := as) h.2]
end
theorem c1n (hU : ¬ U l0) : ∀ {xs : List (List FV)}, a1h U xs -> fzss l0 sz0 xs0 xs = xs
 | [], _ => rfl
 | a :: as, h => by simp only [fzss, b3p hU h.1, c1n hU (xs := as) h.2]
theorem d9r (hU : ¬ U l0) : ∀ {xs : List (FV × FV × Nat)}, nine U xs -> fze l0 sz0 xs0 xs = xs
 | [], _ => rfl
 | (k, v, n) :: as, h => by simp only [fze, d0l hU h.1.1, d0l hU h.1.2, d9r hU (xs := as) h.2]
theorem f5z (hU : ¬ U l0) (h : ninO U o) : fzO l0 sz0 xs0 o = o := by
 cases o with
 | cells T sz xs => simp only [fzO, c1n hU (xs := xs) h]
 | map es clk => simp only [fzO, d9r hU (xs := es) h]
 | iter x a b c => simp only [fzO, d0l hU (a := x) h]
 | dead => rfl
end
theorem d9s {l0 : Loc} {sz0 : Nat} {xs0 : List (List FV)} (hcl : Clo (ext B A)) (h0 : ext B A l0 = none) (L : LF) (hL : ∀ p ∈ L, ext B A p.1 = none) : fzH l0 sz0 xs0 (HP L B A) = HP (fzL l0 sz0 xs0 L) B A := by
 have key : ∀ q o, ext B A q = some o -> q ≠ l0 /\ fzO l0 sz0 xs0 o = o := fun q o hq => ⟨fun e => (by rw [e, h0] at hq; cases hq), f5z (U := fun l => ext B A l ≠ none) (fun h => h h0) (hcl q o hq)⟩
 funext q
 show (if q = l0 then none else (HP L B A q).map (fzO l0 sz0 xs0)) = HP (fzL l0 sz0 xs0 L) B A q
 unfold HP
 rw [a1m, a1m]
 cases ea : A q with
 | some o =>
   have := key q o (a6h ea)
   simp only [this.1, if_false, A0s, this.2]
 | none =>
   simp only
   clear hL
   induction L with
   | nil =>
     show (if q = l0 then none else (B q).map _) = B q
     cases eb : B q with
     | none => split <;> rfl
     | some o =>
       have := key q o (by rw [b7u ea]; exact eb)
       simp only [this.1, if_false, A0s, this.2]
   | cons p r ih =>
     obtain ⟨k, o⟩ := p
     simp only [fzL, updL, upd]
     by_cases e : q = l0
     . subst e
       simp only [if_true] at ih ⊢
       split
       . exact ih
       . rename_i hk
         simp only [updL, upd, A4f hk, if_false]
         exact ih
     . simp only [e, if_false] at ih ⊢
       by_cases h1 : q = k
       . subst h1
         simp [e, updL, upd]
       . simp only [h1, if_false]
         split
         . exact ih
         . simp only [updL, upd, h1, if_false]
           exact ih
theorem gk5 {L1 : LF} {H1 : Heap} (b : List (Loc × Option Loc)) (hH1 : HP L1 B A = H1) (hinj : injB (bk b) (L1.map Prod.fst) = true) (hN : ∀ n ∈ L1.map Prod.fst ++ b.map Prod.fst ++ b.filterMap Prod.snd, ext B A n = none) (hl : ∀ p ∈ L, ext B A p.1 = none)
 (hcl : Clo (ext B A)) (hc : ∀ l, c.L l -> ext B A l ≠ none) (hv : a7m (bk b) (fun l => HP L1 B A l ≠ none) vs1 vs) (ht : simT (bk b) (fun l => HP L1 B A l ≠ none) vs.length tm tm1) (hH : simH (bk b) (fun l => HP L1 B A l ≠ none) (HP L B A) L1) : Gk c (Fs.mk vs1 tm1 H1 ix1) ⟨vs, tm, HP L B A, ix⟩ := by
 subst hH1
 refine f0i b hinj hN hcl ?_ hc hv ht hH
 rw [show HP L B A = ext (hpL L) (ext B A) from b5a hl]
 intro k o hk
 exact a6h hk
theorem d1m : ∀ {xs ys : List FV}, asDs xs ys -> ∀ t, asD (xs.getD t .undef) (ys.getD t .undef)
 | [], ys, h, t => by have e : ys = [] := h; subst e; exact a5p _
 | x :: xs, ys, h, t => by
   obtain ⟨y, ys', rfl, h1, h2⟩ := h
   cases t with
   | zero => exact h1
   | succ t => simpa using d1m h2 t
theorem g8k (h : asDs vs vs1) : Gk c (Fs.mk vs1 tm H ix) ⟨vs, tm, H, ix⟩ := by
 rintro X a w ⟨hN, F, m, h1, h2, hr⟩
 refine ⟨hN, F, m, h1, h2, { hr with vsz := ?_, val := fun t => ?_ }⟩
 . show vs1.length <= _
   rw [a8q h]; exact hr.vsz
 . have hv := hr.val t
   simp only [Fs.get, a8q h] at hv ⊢
   split
   . rename_i ht
     rw [if_pos ht] at hv
     exact hv.asD (d1m h t)
   . rename_i ht
     rw [if_neg ht] at hv
     exact hv
theorem z1s (fn : Func) (res : List ResultVar) (nv n : Nat) (keep : List Nat) (j : Nat) (h : a0z P ⟨n, keep, fun d ix => j :: d :: ix, G, inH H⟩ code (KEnd P res r H') (Fs.init nv args H)) (hf : P.funcs[f]? = some fn := by kernel_rfl) (hb : fn.body = some code := by rfl) (hn : fn.ntmps = n := by rfl) (hr : fn.results.toList = res := by rfl) (ha : args.length ≤ nv := by simp) (hv : nv ≤ n := by decide) : FC P G f args H r H' := d1v nv n keep _ hf hb hn hr ha hv h
theorem d9i (l0 : Loc) (T0 : TypeId) (sz0 : Nat) (xs0 : List (List FV)) (hb : Bs c.L j B A) (hnd : ∀ l, c.L l -> ∃ o, ext B A l = some o /\ o ≠ .dead) (hL : hdN j (l0 :: L.map Prod.fst) = true)
 (hl : HP L B A l0 = some (.cells T0 sz0 xs0)) (hn : nlss xs0 = true) : Gk c (Fs.mk (fzs l0 sz0 xs0 vs) (fzT l0 sz0 xs0 tm) (HP (fzL l0 sz0 xs0 L) B A) ix) ⟨vs, tm, HP L B A, ix⟩ := by
 have hfr : ∀ n ∈ l0 :: L.map Prod.fst, ext B A n = none := fun n hn' => by
  obtain ⟨r, rfl⟩ := a4z hL n hn'
  exact a0s.2 ⟨hb.fa j r (A5s _), hb.fb j r (A5s _)⟩
 have h0 := hfr l0 yd
 have hL' : hdN j (L.map Prod.fst) = true := by
  simp only [hdN, A3i, A5t] at hL ⊢
  exact hL.2
 rw [<- d9s hb.clo h0 L fun p hp => hfr p.1 z41]
 refine f0j l0 T0 sz0 xs0 (fun l hcl => ?_) hl hn
 obtain ⟨o, ho, hd⟩ := hnd l hcl
 exact ⟨fun e => (by rw [e, h0] at ho; cases ho), o, b7c hb.fb hL' l o ho, hd⟩
theorem d0e (H : Heap) (l : Loc) : inH H l = (H l ≠ none) := id (Eq.refl _)
theorem gk3i {vs0 : List FV} {tm0 : Asg} {L0 : LF} {sv : σ -> List (Nat × FV)} {kt : List Nat} {st : σ -> Asg} {dl : List Loc} {sh : σ -> LF} {fA : σ -> Heap} {x : σ} (b : List (Loc × Option Loc)) (hb : Bs c.L j B (fA x)) (hA : fA x = A)
 (hn : hdN j ((a2n (sh x) (delL dl L0)).map Prod.fst ++ (b ++ mVs (setV (sv x) vs0) vs ++ mT tm (st x ++ a6s kt tm0)).map Prod.fst ++ (b ++ mVs (setV (sv x) vs0) vs ++ mT tm (st x ++ a6s kt tm0)).filterMap Prod.snd) = true) (hl : hdN j (L.map Prod.fst) = true)
 (hinj : injB (bk (b ++ mVs (setV (sv x) vs0) vs ++ mT tm (st x ++ a6s kt tm0))) ((a2n (sh x) (delL dl L0)).map Prod.fst) = true)
 (hv : a7m (bk (b ++ mVs (setV (sv x) vs0) vs ++ mT tm (st x ++ a6s kt tm0))) (inH (HP (a2n (sh x) (delL dl L0)) B (fA x))) (setV (sv x) vs0) vs)
 (ht : simT (bk (b ++ mVs (setV (sv x) vs0) vs ++ mT tm (st x ++ a6s kt tm0))) (inH (HP (a2n (sh x) (delL dl L0)) B (fA x))) vs.length tm (st x ++ a6s kt tm0))
 (hH : simH (bk (b ++ mVs (setV (sv x) vs0) vs ++ mT tm (st x ++ a6s kt tm0))) (inH (HP (a2n (sh x) (delL dl L0)) B (fA x))) (HP L B A) (a2n (sh x) (delL dl L0))) : Gk c (lpS vs0 tm0 L0 B sv kt st dl sh fA x) ⟨vs, tm, HP L B A, ix⟩ :=
 gk3 b hb hA hn hl hinj hv ht hH
end Go.FM
namespace Go.FM
open Go
open Go.ChangeMaps (setBlock)
section
variable {P : Program} {X : Ctx} {c : Cfg} {w w' : World} {F F' : Nat -> Prop} {m m' : Loc -> Nat × Nat} {s s' s1 : Fs} {a a' : Act} {o : Oper} {ops : Array Oper} {Φ : Fs -> Prop} {l l1 l2 post : List Oper} {Q : Exit -> Fs -> Prop}
def WL (P : Program) (c : Cfg) (ops : Array Oper) (l : List Oper) (Φ : Fs -> Prop) (s : Fs) : Prop :=
 ∀ (X : Ctx) (a : Act) (w : World) (Q : Exit -> Act -> World -> Prop), Rel X c s a w -> (∀ s1 a' w', Φ s1 -> Rel X c s1 a' w' -> Q .normal a' w') -> wpList P ops Q l a w
theorem a9y {id : Nat} (h : ∀ K : Fs -> Prop, Kont Q K -> WL P c ops ops.toList (Fend c.keep ops K) s) : a0z P c (.region id ops false) Q s :=
 f7s (fun s' => Fend c.keep ops (Q .normal) s') (h _ fun _ h => h) fun _ h => h
theorem a7k (n : Nat) (h : wOps P c ops (l.take n) (WL P c ops (l.drop n) Φ) s) : WL P c ops l Φ s := by
 intro X a w Q hR hQ
 rw [<- A2z n l]
 exact c7l (fun s1 a1 w1 h1 hk => hk X a1 w1 Q h1 hQ) (l.take n) s a w hR h
theorem b3z (h : wOps P c ops l Φ s) : WL P c ops l Φ s := fun X a w Q hR hQ =>
 b9x (fun s3 a3 w3 h4 h5 => hQ s3 a3 w3 h5 h4) l s a w hR h
theorem f8u (hg : Gk c s1 s) (h : WL P c ops l Φ s1) : WL P c ops l Φ s := fun X a w Q hR hQ => h X a w Q (hg X a w hR) hQ
theorem e8v {Ψ : Fs -> Prop} (hg : a0x ops o s = some true) (ho : OWp P c o s Ψ) (h : ∀ s1, Ψ s1 -> WL P c ops post Φ s1) : WL P c ops (o :: post) Φ s := by
 intro X a w Q hR hQ
 unfold wpList
 rw [if_pos (a4a hR hg)]
 exact .inl (ho X a w _ _ hR fun s2 u w2 h2 h3 => h s2 h2 X _ w2 Q h3 hQ)
theorem a0f {id : Nat} (rs : List Loc) (n : Nat) (hm : P.follows .mixedOrders = true) (hB : b7x ops n = true)
 (h : ∀ K : Fs -> Prop, Kont Q K -> awH P c ops n (WL P c ops (ops.toList.drop n) (Fend c.keep ops K)) (rmvs rs s.H) rs 0 (ops.toList.take n) s []) : a0z P c (.region id ops true) Q s :=
 f1e (fun s' => Fend c.keep ops (Q .normal) s') (fun id X a w Q' hR hQ => d3s hm hB (b5f rs s.H) (h _ fun _ h => h) (fun s1 a w ht hr => ht X a w Q' hr hQ) hR) fun _ h => h
theorem a2m {n k : Nat} {K : Fs -> Prop} {H0 : Heap} {rs : List Loc} {As : List Heap} (h : K s) : awH P c ops n K H0 rs k [] s As := h
def StL (P : Program) (c : Cfg) (ops : Array Oper) (post : List Oper) (Φ : Fs -> Prop) (x : Option Fs) : Prop := match x with
 | some s1 => WL P c ops post Φ s1
 | none => False
theorem c7g : StL P c ops post Φ (some s) = WL P c ops post Φ s := rfl
def MDo (P : Program) (c : Cfg) (ops : Array Oper) (o : Oper) (post : List Oper) (Φ : Fs -> Prop) (s : Fs) (x : Option (FuncId × List FV)) : Prop := match x with
 | some (f, A) => fnOk P f = true /\ (∀ d, o.dst = some d -> d < c.N) /\ ∃ Ψ, FCr P c.G f A s.H Ψ /\ ∀ r H', Ψ r H' -> StL P c ops post Φ (putD c o r { s with H := H' })
 | none => False
def MG (P : Program) (c : Cfg) (ops : Array Oper) (o : Oper) (post : List Oper) (Φ : Fs -> Prop) (s : Fs) (b : Option Bool) : Prop := match b with
 | some true => MDo P c ops o post Φ s (a0l s o)
 | some false => StL P c ops post Φ (putD c o (.tup []) s)
 | none => False
theorem MG_t : MG P c ops o post Φ s (some true) = MDo P c ops o post Φ s (a0l s o) := rfl
theorem MG_f : MG P c ops o post Φ s (some false) = StL P c ops post Φ (putD c o (.tup []) s) := rfl
theorem a4r (h : MG P c ops o post Φ s (a0x ops o s)) : WL P c ops (o :: post) Φ s := by
 unfold MG at h
 cases hg : a0x ops o s with
 | none => rw [hg] at h; exact h.elim
 | some b =>
   rw [hg] at h
   cases b
   . simp only at h
     unfold StL at h
     cases hp : putD c o (.tup []) s with
     | none => rw [hp] at h; exact h.elim
     | some s1 =>
       rw [hp] at h
       intro X a w Q hR hQ
       unfold wpList
       rw [if_neg (by rw [a4a hR hg]; simp)]
       exact h X _ w Q (c0d hR hp) hQ
   . simp only at h
     unfold MDo at h
     cases hc : a0l s o with
     | none => rw [hc] at h; exact h.elim
     | some x =>
       obtain ⟨f, A⟩ := x
       rw [hc] at h
       obtain ⟨h1, h2, Ψ, h3, h4⟩ := h
       refine e8v hg (e8g hc h1 h2 h3) fun s1 ⟨r, H', hΨ, hp⟩ => ?_
       have := h4 r H' hΨ
       rw [hp] at this
       exact this
theorem d7t {f : FuncId} {A : List FV} {Ψ : FV -> Heap -> Prop} (hf : fnOk P f = true) (hN : ∀ d, o.dst = some d -> d < c.N) (hfc : FCr P c.G f A s.H Ψ) (h : ∀ r H', Ψ r H' -> StL P c ops post Φ (putD c o r { s with H := H' })) : MDo P c ops o post Φ s (some (f, A)) := ⟨hf, hN, Ψ, hfc, h⟩
theorem c0k (w : World) (ty : TypeId) (r bm since c0 : Nat) (seen : Array Nat) (es : Array MapEntry) (clock : Nat)
 (hr : w.heap[r]? = some (.mapIter (some bm) since seen c0)) (hb : w.heap[bm]? = some (.map es clock)) (hold : seen = #[] \/ ∃ x ∈ es.toList, x.born < c0) :
 ((∀ x ∈ es.toList, x.born < since -> seen.contains x.born = true) /\ ∃ w1 : World, (w1 = w \/ w1 = w.drew) /\ (Instr.next (.pointer (some ⟨r, 0, none⟩)) false ty).run P w = .ok (.tuple #[.bool false]) w1) \/
 ∃ e ∈ (leftOf es seen).toList, ∃ w1 : World, (w1 = w \/ w1 = w.drew) /\ (Instr.next (.pointer (some ⟨r, 0, none⟩)) false ty).run P w = .ok (.tuple #[.bool true, e.key, e.val]) (setBlock w1 r (.mapIter (some bm) since (seen.push e.born) clock)) := by
 have htest : (!seen.isEmpty && !es.isEmpty && es.all (fun x => decide (x.born ≥ c0))) = false := by
  rcases hold with rfl | ⟨x, hx, hlt⟩
  . simp
  . have : es.all (fun x => decide (x.born ≥ c0)) = false := by
     rw [Bool.eq_false_iff]
     intro h
     rw [Array.all_eq_true_iff_forall_mem] at h
     have h1 := h x (by simpa using hx)
     simp at h1
     omega
    simp [this]
 simp only [Instr.next, getObj, Sem.run_bind, Sem.run, hr, hb, Result.andThen, htest, A4r, if_false]
 have hL : leftOf es seen = Array.filter (fun e => !seen.contains e.born) es := rfl
 rw [<- hL]
 have hold' : ∀ x ∈ es.toList, x.born < since -> ((leftOf es seen).filter (fun x => decide (x.born < since))).isEmpty = true -> seen.contains x.born = true := by
  intro x hx hlt he
  rw [Array.isEmpty_iff, Array.filter_eq_empty_iff] at he
  by_cases hc : seen.contains x.born = true
  . exact hc
  . have := he x (by rw [hL, Array.mem_filter]; exact ⟨by simpa using hx, by simpa using hc⟩)
    simp at this
    omega
 generalize hO : (leftOf es seen).filter (fun x => decide (x.born < since)) = O at hold' ⊢
 generalize hN : (leftOf es seen).filter (fun x => decide (x.born ≥ since)) = N
 have hmem : ∀ x ∈ O ++ N, x ∈ (leftOf es seen).toList := by
  intro x hx
  rw [Array.mem_append, <- hO, <- hN, Array.mem_filter, Array.mem_filter] at hx
  rcases hx with hx | hx <;> simpa using hx.1
 have hch : ∀ n : Nat, 0 < n -> ∃ (j : Nat) (w1 : World), j < n /\ (w1 = w \/ w1 = w.drew) /\ (choose (Question.mapNext n)).run P w = .ok j w1 := by
  intro n hn
  by_cases hf : n <= 1
  . exact ⟨0, w, by omega, Or.inl rfl, by simp [choose, Sem.run, Question.forced, hf]⟩
  . exact ⟨_, w.drew, Nat.mod_lt _ ya, Or.inr rfl, by
     simp only [choose, Sem.run, Question.forced, A5w, hf, if_false, Question.cut]
     rfl⟩
 generalize hC : (if O.isEmpty = true then #[none] else #[]) ++ (O ++ N).map some = C
 have hCpos : 0 < C.size := by
  rw [<- hC, Array.size_append, Array.size_map, Array.size_append]
  by_cases he : O.isEmpty = true
  . simp [he]; omega
  . simp only [he, A4r, if_false]
    have : O.size ≠ 0 := fun h => he (by simp [Array.isEmpty, h])
    simp
    omega
 obtain ⟨j, w1, hj, hal, hrun⟩ := hch C.size hCpos
 have hr1 : w1.heap[r]? = some (.mapIter (some bm) since seen c0) := by rcases hal with rfl | rfl <;> exact hr
 have hcj : C[j]? = some C[j] := A5k hj
 have hm : C[j] ∈ C := Array.getElem_mem hj
 cases he : C[j] with
 | none =>
   left
   rw [he] at hm hcj
   have hempty : O.isEmpty = true := by
    rw [<- hC, Array.mem_append] at hm
    rcases hm with hm | hm
    . by_cases he : O.isEmpty = true
      . exact he
      . simp [he] at hm
    . simp at hm
   refine ⟨fun x hx hlt => hold' x hx hlt hempty, w1, hal, ?_⟩
   simp only [hrun, Result.andThen, hcj]
   rfl
 | some e =>
   right
   rw [he] at hm hcj
   have hel : e ∈ O ++ N := by
    rw [<- hC, Array.mem_append] at hm
    rcases hm with hm | hm
    . by_cases he : O.isEmpty = true
      . simp [he] at hm
      . simp [he] at hm
    . simpa using hm
   refine ⟨e, hmem e hel, w1, hal, ?_⟩
   simp only [hrun, Result.andThen, hcj, Sem.run_bind, run_setObj_at hr1]
   rfl
def g5c (s : Fs) (l k : Loc) (since : Nat) (seen : List Nat) (es : List (FV × FV × Nat)) (clk d : Nat) (s1 : Fs) : Prop :=
 ((∀ e ∈ es, e.2.2 < since -> e.2.2 ∈ seen) /\ s1 = s.put d (.tup [.bool false])) \/
 ∃ e ∈ es, e.2.2 ∉ seen /\ s1 = ({ s with H := upd s.H l (.iter (.mp k) since (seen ++ [e.2.2]) clk) }).put d (.tup [.bool true, e.1, e.2.1])
theorem d4a {it : Operand} {d : Nat} {l k : Loc} {since last clk : Nat} {seen : List Nat} {es : List (FV × FV × Nat)} (ho : o.op = .next it false) (hd : o.dst = some d) (hN : d < c.N) (hx : rv s it = .ptr l 0 0 0)
 (hl : s.H l = some (.iter (.mp k) since seen last)) (hk : s.H k = some (.map es clk)) (hold : seen = [] \/ ∃ e ∈ es, e.2.2 < last) : OWp P c o s (g5c s l k since seen es clk d) := by
 rintro X a w K Q ⟨hsz, F, m, h1, h2, h⟩ hK
 have hxv := a1n h it
 rw [hx] at hxv
 generalize hxe : a.eval it = vx at hxv
 cases hxv
 obtain ⟨h0, q, g1, g2⟩ := h.heap.obj _ _ hl
 cases g1 with
 | mp _ huk =>
 obtain ⟨hk0, ar, k1, k2⟩ := h.heap.obj _ _ hk
 have hdN : d < a.tmps.size := by rw [hsz]; exact hN
 have hfin : ∀ (v : FV) (u : Value) (w' : World) (s' : Fs), (execOp a.eval o).run P w = .ok (.value u) w' -> RelX X F m s' a w' -> RF w' F (fun l => s'.H l ≠ none) m v u -> g5c s l k since seen es clk d (s'.put d v) -> o.wp P a w K Q := by
  intro v u w' s' hrun hR hv hn
  unfold Oper.wp
  rw [hrun, Oper.upon_value]
  refine hK _ u w' hn ⟨by rw [b0b]; exact hsz, F, m, h1, h2, ?_⟩
  have := hR.put (d := d) (x := v) (v := u) hdN hv
  rw [hd]; exact this
 rcases c0k (P := P) w o.type (m l).1 (m k).1 since last seen.toArray ar clk g2 k1 (by
  rcases hold with rfl | ⟨e, he, hlt⟩
  . exact .inl rfl
  . obtain ⟨x, hx', hre⟩ := k2.mem' he
    exact .inr ⟨x, hx', by rw [hre.born]; exact hlt⟩) with ⟨hz, w1, hw1, hrun⟩ | ⟨x, hxm, w1, hw1, hrun⟩
 . have hR1 : RelX X F m s a w1 := by rcases hw1 with rfl | rfl; exact h; exact h.drew
   refine hfin (.tup [.bool false]) (.tuple #[.bool false]) w1 s ?_ hR1 (by simpa using RF.tup _ _ (.cons _ _ _ _ (.bool false) .nil)) (.inl ⟨fun e he hlt => ?_, rfl⟩)
   . simp only [execOp, ho, hxe, A4k, A3h, Sem.run_bind, hrun]; rfl
   . obtain ⟨x, hx', hre⟩ := k2.mem' he
     have := hz x hx' (by rw [hre.born]; exact hlt)
     rw [<- hre.born]
     simpa using this
 . have hxl : x ∈ ar.toList /\ x.born ∉ seen := by
    unfold leftOf at hxm
    simpa using hxm
   obtain ⟨e, he, hre⟩ := k2.mem hxl.1
   have hR1 : RelX X F m s a w1 := by rcases hw1 with rfl | rfl; exact h; exact h.drew
   have g21 : w1.heap[(m l).1]? = some (.mapIter (some (m k).1) since seen.toArray last) := by rcases hw1 with rfl | rfl <;> exact g2
   have hT := hR1.turn (o := .iter (.mp k) since (seen ++ [e.2.2]) clk) (ob := .mapIter (some (m k).1) since (seen.toArray.push x.born) clk) hl yd h0 yd g21 (fun w' q1 q2 => by
    refine ⟨h0, some (m k).1, .mp k (by unfold upd; split <;> simp [huk]), ?_⟩
    rw [q1, <- hre.born]
    simp)
   have hre1 : RE w1 F (fun l => s.H l ≠ none) m e x := by rcases hw1 with rfl | rfl; exact hre; exact ⟨hre.key.drewn, hre.val.drewn, hre.born⟩
   have hbl := fun b (hb : F b) => (MapKept.heap_set (o' := .mapIter (some (m k).1) since (seen.toArray.push x.born) clk) g21).2 b fun e => (hR1.heap.old l ⟨_, hl, by simp, h0⟩).2 (e ▸ hb)
   have hU : ∀ k', s.H k' ≠ none -> upd s.H l (.iter (.mp k) since (seen ++ [e.2.2]) clk) k' ≠ none := fun k' hk' => by unfold upd; split <;> simp [hk']
   have hv := RFs.cons _ _ _ _ (RF.bool (w := setBlock w1 (m l).1 (.mapIter (some (m k).1) since (seen.toArray.push x.born) clk)) (F := F) (U := fun k' => upd s.H l (.iter (.mp k) since (seen ++ [e.2.2]) clk) k' ≠ none) (m := m) true)
    (.cons _ _ _ _ (hre1.key.keep (fun _ h => h) hbl hU (fun _ _ => rfl)) (.cons _ _ _ _ (hre1.val.keep (fun _ h => h) hbl hU (fun _ _ => rfl)) .nil))
   refine hfin (.tup [.bool true, e.1, e.2.1]) (.tuple #[.bool true, x.key, x.val]) _ { s with H := upd s.H l (.iter (.mp k) since (seen ++ [e.2.2]) clk) } ?_ hT (RF.tup _ _ hv) (.inr ⟨e, he, by rw [<- hre.born]; exact hxl.2, rfl⟩)
   simp only [execOp, ho, hxe, A4k, A3h, Sem.run_bind, hrun]; rfl
theorem c5b {it : Operand} {d : Nat} {l k : Loc} {since last clk : Nat} {seen : List Nat} {es : List (FV × FV × Nat)} (hg : a0x ops o s = some true) (ho : o.op = .next it false) (hd : o.dst = some d) (hN : d < c.N) (hx : rv s it = .ptr l 0 0 0)
 (hl : s.H l = some (.iter (.mp k) since seen last)) (hk : s.H k = some (.map es clk)) (hold : seen = [] \/ ∃ e ∈ es, e.2.2 < last)
 (h1 : (∀ e ∈ es, e.2.2 < since -> e.2.2 ∈ seen) -> WL P c ops post Φ (s.put d (.tup [.bool false])))
 (h2 : ∀ e ∈ es, e.2.2 ∉ seen -> WL P c ops post Φ (({ s with H := upd s.H l (.iter (.mp k) since (seen ++ [e.2.2]) clk) }).put d (.tup [.bool true, e.1, e.2.1]))) : WL P c ops (o :: post) Φ s :=
 e8v hg (d4a ho hd hN hx hl hk hold) fun s1 h => by
  rcases h with ⟨hz, rfl⟩ | ⟨e, he, hn, rfl⟩
  . exact h1 hz
  . exact h2 e he hn
end
end Go.FM
namespace Go.FM
open Go
variable {G H : Prop}
section
variable {P : Program} {G : List (Nat × List Value)}
theorem FC.frozen {f : FuncId} {args : List FV} {H : Heap} {l : Loc} {T : TypeId} {sz : Nat} {xs : List (List FV)} (h : FC P G f args H (.sl l sz 0 xs.length) (upd H l (.cells T sz xs))) (h0 : H l = none) (hn : nlss xs = true) (hc : Clo H) : FC P G f args H (.list sz xs) H := by
 intro w F m vs hF hG hv hH
 refine (h w F m vs hF hG hv hH).mono ?_
 rintro e w' ⟨v, F', m', he, k1, k2, k3, k4, k5, k6, k7, k8, k9⟩
 have hself : upd H l (.cells T sz xs) l = some (.cells T sz xs) := by simp [upd]
 have hne : ∀ q, H q ≠ none -> q ≠ l := fun q hq e => hq (e ▸ h0)
 have hup : ∀ q o, H q = some o -> upd H l (.cells T sz xs) q = some o := fun q o hq => by
  have := hne q (by simp [hq])
  simp [upd, this, hq]
 have live : ∀ q, Live H m' q -> Live (upd H l (.cells T sz xs)) m' q := fun q ⟨o, g1, g2⟩ => ⟨o, hup q o g1, g2⟩
 let F2 : Nat -> Prop := fun b => F' b \/ (Live (upd H l (.cells T sz xs)) m' l /\ (m' l).1 = b)
 have hF2 : ∀ b, F' b -> F2 b := fun _ h => .inl h
 have hB : FzB w' F2 m' l sz xs := by
  refine ⟨hn, ?_⟩
  rcases k5.obj l _ hself with ⟨g1, g2⟩ | ⟨g0, cc, g1, g2, g3, g4, g5⟩
  . exact .inl ⟨g1, g2⟩
  . refine .inr ⟨g0, .inr ⟨⟨_, hself, by simp, g0⟩, rfl⟩, T, cc, g1, g3, ?_⟩
    exact (g5.keep (w' := w') (F' := F2) (U' := fun q => upd H l (.cells T sz xs) q ≠ none) (m' := m') hF2 (fun _ _ => rfl) (fun _ h => h) (fun _ _ => rfl)).nameless z3a _ _
 have hr := RF.fz (U' := fun q => H q ≠ none) k4 hB hF2 (fun q hq hql => by
  simp only [upd, hql, if_false] at hq; exact hq)
 have er : FM.fz l sz xs (.sl l sz 0 xs.length) = .list sz xs := by simp [FM.fz]
 rw [er] at hr
 have hlnew : Live (upd H l (.cells T sz xs)) m' l -> w.heap.size <= (m' l).1 := fun hl => by
  rcases k6 l hl with ⟨k, hk, e⟩ | h
  . exfalso
    obtain ⟨o, g1, g2, g3⟩ := hk
    have hm := (k3 k (by simp [g1])).1
    have : k = l := k5.inj k l ⟨o, hup k o g1, g2, by rw [hm]; exact g3⟩ hl (by rw [hm]; exact e)
    subst this
    rw [h0] at g1; cases g1
  . exact h
 refine ⟨v, F2, m', he, fun y hy => .inl (k1 y hy), fun y hy => ?_, fun q hq => ⟨(k3 q hq).1, hq⟩, hr, ⟨fun q o hq => ?_, fun q q' hq hq' => k5.inj q q' (live q hq) (live q' hq'), fun q hq => ⟨(k5.old q (live q hq)).1, ?_⟩⟩, fun q hq => k6 q (live q hq), k7, k8, k9⟩
 . rcases hy with hy | ⟨hl, rfl⟩
   . exact k2 y hy
   . exact ⟨.inr (hlnew hl), (k5.old l hl).1⟩
 . exact ((k5.obj q o (hup q o hq)).keep (F' := F2) hF2 (fun _ _ => rfl) (fun _ h => h) (fun _ _ => rfl) rfl (fun _ _ => rfl)).nin (hc q o hq)
 . rintro (hy | ⟨hl, e⟩)
   . exact (k5.old q (live q hq)).2 hy
   . have : q = l := k5.inj q l (live q hq) hl e.symm
     subst this
     obtain ⟨o, g1, _⟩ := hq
     rw [h0] at g1; cases g1
theorem FC.asR' {f : FuncId} {args : List FV} {H H' : Heap} {r r' : FV} (h : FC P G f args H r H') (hr : asR r r') : FC P G f args H r' H' := by
 intro w F m vs hF hG hv hH
 refine (h w F m vs hF hG hv hH).mono ?_
 rintro e w' ⟨v, F', m', he, k1, k2, k3, k4, k5⟩
 exact ⟨v, F', m', he, k1, k2, k3, k4.asR hr, k5⟩
end
theorem d8u {j : Nat} {L : LF} {B : Heap} {r : List Nat} {o : FO} (fb : ∀ r, B (j :: r) = none) (hl : hdN j (L.map Prod.fst) = true) (h : updL L B (j :: r) = some o) : HSub (updL [(j :: r, o)] B) (updL L B) := by
 intro k q hk
 simp only [updL, upd] at hk
 split at hk
 . rename_i e; subst e
   obtain rfl := A5o hk
   exact h
 . rw [a3i fun p hp e => ?_]
   . exact hk
   . obtain ⟨s, hs⟩ := a4z hl p.1 (A1t.2 ⟨p, hp, rfl⟩)
     rw [<- e, hs, fb s] at hk
     cases hk
class Stp (G : Prop) (H : outParam Prop) : Prop where
 go : H -> G
class StpK (G : Prop) (H : outParam Prop) : Prop where
 go : H -> G
class StpC (G : Prop) (H : outParam Prop) : Prop where
 go : H -> G
class Stp2 (G : Prop) (H1 H2 : outParam Prop) : Prop where
 go : H1 -> H2 -> G
theorem stp [i : Stp G H] (h : H) : G := i.go h
theorem stpK [i : StpK G H] (h : H) : G := i.go h
theorem stpC [i : StpC G H] (h : H) : G := i.go h
theorem stp2 {H1 H2 : Prop} [i : Stp2 G H1 H2] (h1 : H1) (h2 : H2) : G := i.go h1 h2
section
variable {P : Program} {c : Cfg} {Q : Exit -> Fs -> Prop} {s : Fs} {K : Fs -> Prop} {ops : Array Oper} {o : Oper} {rest : List Oper} {Φ : FV -> Heap -> Prop} {id i : Nat} {x y b : Code} {res : List ResultVar} {r : FV} {H H' : Heap} {T E : Fs -> Prop} {p : Prop} [Decidable p] {d : Bool} {n k : Nat} {H0 Hn : Heap} {rs : List Loc} {As : List Heap}
instance : Stp (a0z P c (.seq x y) Q s) (a0z P c x (KSeq P c y Q) s) := ⟨h0c⟩
instance : Stp (a0z P c (.block id b) Q s) (a0z P c b (KBlk id Q) s) := ⟨g4q⟩
instance : StpK (a0z P c (.region id ops false) Q s) (∀ K : Fs -> Prop, Kont Q K -> wOps P c ops ops.toList (Fend c.keep ops K) s) := ⟨g4n⟩
instance : Stp (a0z P c .skip Q s) (Q .normal s) := ⟨f7r⟩
instance : Stp (a0z P c .ret Q s) (Q .ret s) := ⟨g4m⟩
instance : Stp (a0z P c (.exit id) Q s) (Q (.exit id) s) := ⟨f7t⟩
instance {v : Operand} : StpC (a0z P c (.cond v x y) Q s) (∀ T E : Fs -> Prop, KT P c x Q T -> KT P c y Q E -> b1v T E s (b8q s v)) := ⟨g4p⟩
instance : Stp (KSeq P c y Q .normal s) (a0z P c y Q s) := ⟨kseq⟩
instance : Stp (KSeq P c y Q .ret s) (Q .ret s) := ⟨g2f⟩
instance : Stp (KSeq P c y Q (.exit i) s) (Q (.exit i) s) := ⟨g2g⟩
instance : Stp (KBlk id Q .normal s) (Q .normal s) := ⟨kblk⟩
instance : Stp (KBlk id Q .ret s) (Q .ret s) := ⟨g2h⟩
instance : Stp (KBlk id Q (.exit id) s) (Q .normal s) := ⟨e5t⟩
instance {σ : Type} {st : σ -> Fs} {μ : σ -> Nat} {x : σ} : Stp (c2o c st μ x Q .ret s) (Q .ret s) := ⟨f5i⟩
instance {σ : Type} {st : σ -> Fs} {μ : σ -> Nat} {x : σ} : Stp (c2o c st μ x Q (.exit i) s) (Q (.exit i) s) := ⟨f5j⟩
instance : Stp (PEnd P res r .ret s) (PFin (b7j s.H (resL P s res)) r) := ⟨g1c⟩
instance : Stp (PEnd P res r .normal s) (PFin (b7j s.H (resL P s res)) r) := ⟨g1d⟩
instance : Stp (NEnd P res r .ret s) (PFin (b1n s.H (resL P s res)) r) := ⟨g1p⟩
instance : Stp (NEnd P res r .normal s) (PFin (b1n s.H (resL P s res)) r) := ⟨g1q⟩
instance : Stp (LEnd P res H Φ .ret s) (LFin H Φ s.H (resL P s res)) := ⟨g2b⟩
instance : Stp (LEnd P res H Φ .normal s) (LFin H Φ s.H (resL P s res)) := ⟨g2c⟩
instance : Stp (KEnd P res r H' .ret s) (KFin r H' s.H (resL P s res)) := ⟨e9z⟩
instance : Stp (KEnd P res r H' .normal s) (KFin r H' s.H (resL P s res)) := ⟨f0a⟩
instance : Stp (GOp P c ops o rest K s (some true)) (DoOp P c ops o rest K s (a0l s o)) := ⟨g8g⟩
instance : Stp (GOp P c ops o rest K s (some false)) (StK P c ops rest K (putD c o (.tup []) s)) := ⟨g8h⟩
instance : Stp (b1v T E s (some true)) (T s) := ⟨g3u⟩
instance : Stp (b1v T E s (some false)) (E s) := ⟨g3v⟩
instance : Stp2 (GOp P c ops o rest K s (some d)) (d = true -> DoOp P c ops o rest K s (a0l s o)) (d = false -> StK P c ops rest K (putD c o (.tup []) s)) := ⟨f0g⟩
instance : Stp2 (HG P c ops n K H0 rs k o rest s As Hn (some d)) (d = true -> HDo P c ops n K H0 rs k o rest s As Hn (a0l s o)) (d = false -> HNx P c ops n K H0 rs k o rest s As (some (.tup [], noH))) := ⟨d8x⟩
instance : Stp2 (b1v T E s (some d)) (d = true -> T s) (d = false -> E s) := ⟨f0y⟩
instance : Stp2 (GOp P c ops o rest K s (some !d)) (d = false -> DoOp P c ops o rest K s (a0l s o)) (d = true -> StK P c ops rest K (putD c o (.tup []) s)) := ⟨d0g⟩
instance : Stp2 (HG P c ops n K H0 rs k o rest s As Hn (some !d)) (d = false -> HDo P c ops n K H0 rs k o rest s As Hn (a0l s o)) (d = true -> HNx P c ops n K H0 rs k o rest s As (some (.tup [], noH))) := ⟨c4d⟩
instance : Stp2 (b1v T E s (some !d)) (d = false -> T s) (d = true -> E s) := ⟨f0x⟩
instance : Stp2 (GOp P c ops o rest K s (some (decide p))) (p -> DoOp P c ops o rest K s (a0l s o)) (¬ p -> StK P c ops rest K (putD c o (.tup []) s)) := ⟨e6g⟩
instance : Stp2 (HG P c ops n K H0 rs k o rest s As Hn (some (decide p))) (p -> HDo P c ops n K H0 rs k o rest s As Hn (a0l s o)) (¬ p -> HNx P c ops n K H0 rs k o rest s As (some (.tup [], noH))) := ⟨d8w⟩
instance : Stp2 (b1v T E s (some (decide p))) (p -> T s) (¬ p -> E s) := ⟨g3w⟩
instance : Stp2 (GOp P c ops o rest K s (some !decide p)) (¬ p -> DoOp P c ops o rest K s (a0l s o)) (p -> StK P c ops rest K (putD c o (.tup []) s)) := ⟨d9d⟩
instance : Stp2 (HG P c ops n K H0 rs k o rest s As Hn (some !decide p)) (¬ p -> HDo P c ops n K H0 rs k o rest s As Hn (a0l s o)) (p -> HNx P c ops n K H0 rs k o rest s As (some (.tup [], noH))) := ⟨d3c⟩
instance : Stp2 (b1v T E s (some !decide p)) (¬ p -> T s) (p -> E s) := ⟨f6q⟩
end
end Go.FM
