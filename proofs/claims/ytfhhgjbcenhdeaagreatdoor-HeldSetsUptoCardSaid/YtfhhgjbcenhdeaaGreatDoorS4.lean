/- Part. -/
import Derived.Test.YtfhhgjbcenhdeaaGreatDoorS3
import Derived.StillTail
set_option linter.all false
set_option maxRecDepth 100000
set_option maxHeartbeats 0
namespace Go.FM
open Go
variable {A H H0 H1 : Heap} {Q : Exit -> Act -> World -> Prop} {T t tx : TypeId} {a : Act} {d id len sz : Nat} {l nm : Loc} {ops : Array Oper} {rows xs : List (List FV)} {rs : List Loc} {s s2 : Fs} {us : LF} {v x y : FV} {w : World} {ρ ρ' : Operand -> FV}
section
variable {P : Program} {X : Ctx} {c : Cfg} {w w' : World} {F F' : Nat -> Prop} {U : Loc -> Prop} {m m' : Loc -> Nat × Nat} {s s' : Fs} {a a' : Act} {o : Oper} {H : Heap}
def srcA (H : Heap) (sz : Nat) : FV -> Option (List (List FV))
 | .list sz' xs => if sz' = sz then some xs else none
 | .nils => some []
 | .emp => some []
 | .sl l sz' off len => match H l with
   | some (.cells _ sz'' xs) => if decide (sz' = sz) && (decide (sz'' = sz) && decide (off + len <= xs.length)) then some ((xs.drop off).take len) else none
   | _ => none
 | _ => none
theorem a8n {α : Type} {sz : Nat} : ∀ (n : Nat) (xs : List (List α)), (∀ x ∈ xs, x.length = sz) -> (xs.drop n).flatten = xs.flatten.drop (n * sz)
 | 0, xs, _ => by simp
 | n + 1, [], _ => by simp
 | n + 1, y :: ys, hl => by
   have hy := hl y yd
   rw [List.drop_succ_cons, a8n n ys (fun x hx => hl x wo), A0l, A1d, A3b, A3v, <- A5i]
   rw [show (y ++ ys.flatten).drop sz = ys.flatten by rw [<- hy]; simp]
theorem a4m {α : Type} {sz : Nat} : ∀ (n : Nat) (xs : List (List α)), (∀ x ∈ xs, x.length = sz) -> (xs.take n).flatten = xs.flatten.take (n * sz)
 | 0, xs, _ => by simp
 | n + 1, [], _ => by simp
 | n + 1, y :: ys, hl => by
   have hy := hl y yd
   rw [List.take_succ_cons, A0l, a4m n ys (fun x hx => hl x wo), A0l, A1d, A3b, A3v, <- hy, A3z]
theorem f3d (h : HeapR w F m H) {e' : TypeId} (hk : P.underlying tx = some (.slice e')) {v : Value} (hs : srcA H sz x = some rows) (hc : rows.flatten.all FV.cellV = true) (hx : RF w F (fun l => H l ≠ none) m x v) :
 (∀ r ∈ rows, r.length = sz) /\ ∃ news, Src P sz tx v rows.length news w /\ RFs w F (fun l => H l ≠ none) m rows.flatten news := by
 unfold srcA at hs
 split at hs
 . rename_i sz1 xs
   split at hs
   case isFalse => cases hs
   rename_i he
   obtain rfl : xs = rows := A5o hs
   cases hx with
   | list _ _ A cap vs hl hcap hm hvs =>
   rw [he] at hl
   have hlen : vs.length = xs.length * sz := by rw [<- hvs.length]; exact a3q _ xs hl
   refine ⟨hl, vs, ?_, hvs⟩
   cases hr : xs with
   | nil =>
     subst hr
     have : vs = [] := A5u (by simpa using hlen)
     subst this
     cases A with
     | none => exact Src.ofNil w hk cap
     | some a => exact Src.ofSlice w hk a 0 cap [] yd yd yd
   | cons r rs =>
     obtain ⟨a, rfl, hF, hcell⟩ := hm (by rw [hr]; simp)
     rw [<- hr]
     exact Src.ofSlice w hk a xs.length cap vs hlen hcell (hvs.one hc)
 . obtain rfl := A5o hs
   cases hx
   exact ⟨by simp, [], Src.ofNil w hk 0, .nil⟩
 . obtain rfl := A5o hs
   cases hx with
   | emp A =>
   refine ⟨by simp, [], ?_, .nil⟩
   cases A with
   | none => exact Src.ofNil w hk 0
   | some a => exact Src.ofSlice w hk a 0 0 [] yd yd yd
 . rename_i l sz' off len
   split at hs
   case h_2 => cases hs
   rename_i T sz'' xs hl
   split at hs
   case isFalse => cases hs
   rename_i hcond
   simp only [A5t, A5w] at hcond
   obtain ⟨e1, e2, hle⟩ := hcond
   rw [e1] at hx
   rw [e2] at hl
   clear e1 e2
   obtain rfl := A5o hs
   have hrl : ((xs.drop off).take len).length = len := by simp; omega
   rcases h.obj _ _ hl with ⟨rfl, h00⟩ | ⟨h0, cur, g1, g2, g3, g4, g5⟩
   . have hl0 : len = 0 := by simp at hle; omega
     subst hl0
     refine ⟨by simp, [], ?_, by simpa using RFs.nil⟩
     rw [hrl]
     cases hx with
     | sl _ _ _ _ cap o hu hcap ho hs => exact Src.ofSlice w hk _ 0 cap [] yd yd yd
     | sl0 _ _ _ A =>
       cases A with
       | none => exact Src.ofNil w hk 0
       | some a => exact Src.ofSlice w hk a 0 0 [] yd yd yd
   . have hall : ∀ r ∈ (xs.drop off).take len, r.length = sz := fun x hx => g3 x (A1n (A0t hx))
     have hpart := (g5.drop (off * sz)).take (len * sz)
     rw [<- a8n off xs g3, <- a4m len _ (fun x hx => g3 x (A1n hx))] at hpart
     refine ⟨hall, _, ?_, hpart⟩
     rw [hrl]
     have hvl : (((cur.toList.take (xs.length * sz)).drop (off * sz)).take (len * sz)).length = len * sz := by
      rw [<- hpart.length, a3q sz _ hall, hrl]
     cases hx with
     | sl _ _ _ _ cap o hu hcap ho hs =>
       refine Src.ofSlice w hk _ len cap _ hvl (fun j u hj => ?_) (hpart.one hc)
       have hpos : 0 < len := by
        rcases A1v len with e | e
        . subst e; simp at hj
        . exact e
       have ho' : o = off * sz := ho.resolve_left ya
       rw [A0p] at hj
       split at hj
       . rw [A2c, A0p] at hj
         split at hj
         . rw [add0, a5a g1, ho']; simpa using hj
         . cases hj
       . cases hj
     | sl0 _ _ _ _ hu h00 => exact absurd h00 h0
 . cases hs
theorem RelX.extend (h : RelX X F m s a w) {vs : List Value} (hl : s.H l = some (.cells T sz xs)) (h0 : (m l).2 ≠ 0) (hle : len <= xs.length) (hfit : (len + rows.length) * sz <= (m l).2)
 (hrow : ∀ r ∈ rows, r.length = sz) (hv : RFs w F (fun k => s.H k ≠ none) m rows.flatten vs) (h1 : ∀ v ∈ vs, v.oneCell' = true) :
 ∃ w', (storeCells ⟨(m l).1, len * sz, none⟩ vs).run P w = .ok () w' /\ RelX X F m { s with H := upd s.H l (.cells T sz (xs.take len ++ rows)) } a w' := by
 have hvl : vs.length = rows.length * sz := by rw [<- hv.length]; exact a3q sz rows hrow
 rcases h.heap.obj l _ hl with ⟨_, h00⟩ | ⟨_, cur, g1, g2, g3, g4, g5⟩
 . exact absurd h00 h0
 have hmul : len * sz <= xs.length * sz := A1z _ hle
 rw [A1d] at hfit
 have hst := run_storeCells_at P (m l).1 (len * sz) T vs 0 cur w g1 ya h1
 simp only [A3h] at hst
 refine ⟨_, hst, ?_⟩
 have hlive : Live s.H m l := ⟨_, hl, by simp, h0⟩
 have hU : ∀ k, s.H k ≠ none -> upd s.H l (.cells T sz (xs.take len ++ rows)) k ≠ none := fun k hk => by unfold upd; split <;> simp [hk]
 have hFne : ∀ b, F b -> (w.setRow (m l).1 (cur.toList.take (len * sz) ++ vs ++ cur.toList.drop (len * sz + vs.length)).toArray).heap[b]? = w.heap[b]? := fun b hb =>
  setRow_other w _ b _ (fun e => (h.heap.old l hlive).2 (e ▸ hb))
 refine h.write hl hlive yd (by simp [World.setRow]) (fun b _ hb => setRow_other w _ b _ hb) rfl rfl rfl (.inr ⟨h0, _, setRow_heap w _ cur _ T _ g1, ?_, ?_, ?_, ?_⟩)
 . simp; omega
 . intro x hx
   rcases A0o.1 hx with hx | hx
   . exact g3 x (A0t hx)
   . exact hrow x hx
 . simp only [A0b, A0j, A0w hle, A1d, List.size_toArray, A1y, A3l]
   omega
 . rw [A3k, a4m len xs g3]
   have e3 : ((cur.toList.take (len * sz) ++ vs ++ cur.toList.drop (len * sz + vs.length)).toArray.toList.take ((xs.take len ++ rows).length * sz)) = (cur.toList.take (xs.length * sz)).take (len * sz) ++ vs := by
    rw [A5f, A1c, A0w hmul]
    have e4 : (xs.take len ++ rows).length * sz = (cur.toList.take (len * sz) ++ vs).length := by
     simp only [A0b, A0j, A0w hle, A1d, A3l]
     omega
    rw [e4, List.take_left']
    rfl
   rw [e3]
   exact ((g5.keep (F' := F) (fun _ h => h) hFne hU (fun _ _ => rfl) (m' := m)).take _).append (hv.keep (fun _ h => h) hFne hU (fun _ _ => rfl))
def wApp (P : Program) (H : Heap) (nm : Loc) (t tx : TypeId) (x y : FV) : Option (LF × FV) := match slT P t, slT P tx with
 | some (e, sz), some _ => match byT P e, a2y P e with
   | some by_, some z => if decide (z.length = sz) && decide (0 < sz) then (match srcA H sz y with
     | some rows => if rows.flatten.all FV.cellV then (match x with
       | .nils => if rows.isEmpty then some ([], .nils) else if decide ((rows.length + rows.length / 4 + 192) * by_ <= 140737488355328) && (decide (rows.length <= 4611686018427387904) && (H nm).isNone) then some ([(nm, .cells e sz rows)], .sl nm sz 0 rows.length) else none
       | .emp => if decide ((rows.length + rows.length / 4 + 192) * by_ <= 140737488355328) && (decide (rows.length <= 4611686018427387904) && (H nm).isNone) then some ([(nm, .cells e sz rows)], .sl nm sz 0 rows.length) else none
       | .sl l sz' 0 len => match H l with
         | some (.cells T sz'' xs) => if (decide (sz' = sz) && decide (sz'' = sz)) && (decide (T = e) && (decide (len <= xs.length) && (decide ((len + rows.length + (len + rows.length) / 4 + 192) * by_ <= 140737488355328) && (decide (len + rows.length <= 4611686018427387904) && (H nm).isNone)))) then
          some ([(l, .dead), (nm, .cells e sz (xs.take len ++ rows))], .sl nm sz 0 (len + rows.length)) else none
         | _ => none
       | _ => none) else none
     | none => none) else none
   | _, _ => none
 | _, _ => none
theorem RelX.drew (h : RelX X F m s a w) : RelX X F m s a w.drew := h.world (A5s _) (fun _ _ => rfl) rfl rfl rfl
theorem RF.drewn {v : Value} (h : RF w F U m x v) : RF w.drew F U m x v := h.keep (fun _ h => h) (fun _ _ => rfl) (fun _ h => h) (fun _ _ => rfl)
theorem RFs.drewn {x : List FV} {v : List Value} (h : RFs w F U m x v) : RFs w.drew F U m x v := h.keep (fun _ h => h) (fun _ _ => rfl) (fun _ h => h) (fun _ _ => rfl)
theorem d1n (h : RelX X F m s a w) {ty e : TypeId} {i : TypeInfo} {z : List FV} {cap : Nat} {base : Option Addr} {olds news : List Value} {orows : List (List FV)} {y : Value} (hu : P.underlying t = some (.slice e)) (hi : P.info? e = some i) (hsz : i.size = sz)
 (hzc : a2y P e = some z) (hzsz : z.length = sz) (h0 : 0 < sz) (hnm : s.H nm = none) (hold : (Builtin.firstCells i.size len (.slice base len cap)).run P w.drew = .ok olds.toArray w.drew) (hsrc : Src P i.size tx y rows.length news w) (hg : cap < len + rows.length) (hol : orows.length = len)
 (h62 : len + rows.length <= 4611686018427387904) (hb : (len + rows.length + (len + rows.length) / 4 + 192) * i.bytes <= 140737488355328) (hr : RFs w F (fun k => s.H k ≠ none) m (orows ++ rows).flatten (olds ++ news)) (hrow : ∀ r ∈ orows ++ rows, r.length = sz) :
 ∃ m' cap' w', (Builtin.append_ #[t, tx] ty #[.slice base len cap, y]).run P w = .ok (.slice (some ⟨w.heap.size, 0, none⟩) (len + rows.length) cap') w' /\ RelX X F m' { s with H := upd s.H nm (.cells e sz (orows ++ rows)) } a w' /\
   RF w' F (fun k => upd s.H nm (.cells e sz (orows ++ rows)) k ≠ none) m' (.sl nm sz 0 (len + rows.length)) (.slice (some ⟨w.heap.size, 0, none⟩) (len + rows.length) cap') := by
 obtain ⟨zi, hzz⟩ : ∃ zi, i.zero = some zi := by
  unfold a2y at hzc
  rw [hi] at hzc
  simp only at hzc
  split at hzc
  . rename_i zi hzi; exact ⟨zi, hzi⟩
  . cases hzc
 have hzl : z.length = zi.cells.size := by
  unfold a2y at hzc
  rw [hi] at hzc
  simp only [hzz, A5v] at hzc
  rw [<- hzc]; simp
 have hb2 : (len + rows.length) * i.bytes <= (len + rows.length + (len + rows.length) / 4 + 192) * i.bytes := A1z _ ya
 have hrun := run_append_grow_src (P := P) w t tx ty e i zi hu hi hzz base len cap olds hold y rows.length news hsrc hg ya (growslice_fits hg ya)
 have hge := grownCap_ge w (len + rows.length) cap e
 have hfl : (olds ++ news).length = (len + rows.length) * sz := by rw [<- hr.length, a3q sz _ hrow]; simp [hol]
 have hpos : 0 < len + rows.length := by omega
 have hcs : ((olds ++ news).toArray ++ Builtin.zeroCells zi.cells (grownCap w (len + rows.length) cap e - (len + rows.length))).size = (len + rows.length) * sz + (grownCap w (len + rows.length) cap e - (len + rows.length)) * zi.cells.size := by
  rw [Array.size_append, size_zeroCells, List.size_toArray, hfl]
 have hmulpos : 0 < (len + rows.length) * sz := Nat.mul_pos hpos h0
 have hal := h.drew.alloc (l := nm) (cells := (olds ++ news).toArray ++ Builtin.zeroCells zi.cells (grownCap w (len + rows.length) cap e - (len + rows.length))) (T := e) (rows := orows ++ rows) (sz := sz) hnm (by
  rw [A4j, A5f, A0b, hol, <- hfl, List.take_left']
  . exact hr.drewn
  . rfl) hrow (by rw [hcs, A0b, hol]; omega) ya
 refine ⟨_, _, _, hrun, hal, ?_⟩
 have := RF.sl (w := w.drew.alloc (.cells ((olds ++ news).toArray ++ Builtin.zeroCells zi.cells (grownCap w (len + rows.length) cap e - (len + rows.length))) e (0, 0))) (F := F) (U := fun k => upd s.H nm (.cells e sz (orows ++ rows)) k ≠ none)
  (m := fun k => if k = nm then (w.drew.heap.size, ((olds ++ news).toArray ++ Builtin.zeroCells zi.cells (grownCap w (len + rows.length) cap e - (len + rows.length))).size) else m k) nm sz 0 (len + rows.length) (grownCap w (len + rows.length) cap e) 0 z1a hge (.inr yd) (by
   simp only [if_true, hcs, A3u, <- hzl, hzsz, <- A1d]
   exact A1z _ ya)
 simpa using this
theorem b3s (size c : Nat) (A : Option Addr) (w' : World) : (Builtin.firstCells size 0 (.slice A 0 c)).run P w' = .ok #[] w' := by
 cases A with
 | none => simp [Builtin.firstCells]
 | some a => exact run_firstCells_some w' size 0 a 0 c [] yd yd
theorem d2c {l' : Loc} {o o' : FO} (h : l ≠ l') : upd (upd H l o) l' o' = upd (upd H l' o') l o := by
 funext k
 unfold upd
 by_cases e1 : k = l' <;> by_cases e2 : k = l
 . exact absurd (e2.symm.trans e1) h
 . simp [e1, e2]
   intro e; exact absurd e.symm h
 . simp [e1, e2]
   intro e; exact absurd e h
 . simp [e1, e2]
theorem a9z {o : FO} (h : H l = some o) : upd H l o = H := by
 funext k
 unfold upd
 split
 . rename_i e; rw [e, h]
 . rfl
theorem RelX.cut (h : RelX X F m s a w) (hl : s.H l = some (.cells T sz xs)) (hle : len <= xs.length) : RelX X F m { s with H := upd s.H l (.cells T sz (xs.take len)) } a w := by
 by_cases h0 : (m l).2 = 0
 . rcases h.heap.obj l _ hl with ⟨rfl, _⟩ | ⟨h1, _⟩
   . rw [List.take_nil, a9z hl]; exact h
   . exact absurd h0 h1
 . have hfit : (len + ([] : List (List FV)).length) * sz <= (m l).2 := by
    rcases h.heap.obj l _ hl with ⟨_, h00⟩ | ⟨_, cur, _, g2, _, g4, _⟩
    . exact absurd h00 h0
    . rw [<- g2]
      exact A0a (A1z _ (by simpa using hle)) g4
   obtain ⟨w', g1, g2⟩ := h.extend (P := default) (rows := []) (vs := []) hl h0 hle hfit yd .nil yd
   have : w' = w := by
    simp only [storeCells, Sem.run_pure, Result.ok.injEq, true_and] at g1
    exact g1.symm
   subst this
   simpa using g2
theorem f1s {x y : Operand} (hs : wApp P s.H nm t tx (rv s x) (rv s y) = some (us, v)) (ho : o.op = .call { callee := .builtin .append, args := ⟨[x, y]⟩, argTypes := ⟨[t, tx]⟩ }) : WOk P s o us v := by
 intro X F m a w h
 unfold wApp at hs
 split at hs
 case h_2 => cases hs
 rename_i e sz ex ht htx
 obtain ⟨e2, sz2⟩ := ex
 obtain ⟨hu, hz⟩ := a3a ht
 obtain ⟨hux, _⟩ := a3a htx
 split at hs
 case h_2 => cases hs
 rename_i by_ z hby hzc
 obtain ⟨i, hi, rfl⟩ := d1g hby
 have hisz := e3t hz hi
 split at hs
 case isFalse => cases hs
 rename_i hc
 simp only [A5t, A5w] at hc
 obtain ⟨hzsz, h0⟩ := hc
 split at hs
 case h_2 => cases hs
 rename_i rows hrows
 split at hs
 case isFalse => cases hs
 rename_i hcell
 obtain ⟨hrl, news, hsrc, hnews⟩ := f3d h.heap hux hrows hcell (a1n h y)
 have hxv := a1n h x
 have hexec : ∀ u w', (Builtin.append_ #[t, tx] o.type #[a.eval x, a.eval y]).run P w = .ok u w' -> Ran P o a w u w' := fun u w' hr => .inl (by simp [execOp, ho, resolve, invoke, builtin, hr])
 have hsrc' : Src P i.size tx (a.eval y) rows.length news w := by rw [hisz]; exact hsrc
 have nothing : ∀ {A : Option Addr} {len cap : Nat}, len <= cap -> rows.length = 0 -> (Builtin.append_ #[t, tx] o.type #[.slice A len cap, a.eval y]).run P w = .ok (.slice A len cap) w := fun {A len cap} hle hr0 => by
  have hn0 : news = [] := by
   have hr : rows = [] := A5u hr0
   rw [hr] at hnews
   cases hnews; rfl
  rw [hr0, hn0] at hsrc'
  exact run_append_nothing w t tx o.type e i hu hi A len cap hle _ hsrc'
 have fresh : s.H nm = none -> ∀ {A : Option Addr}, a.eval x = .slice A 0 0 -> rows.length ≠ 0 -> (rows.length + rows.length / 4 + 192) * i.bytes <= 140737488355328 -> rows.length <= 4611686018427387904 ->
  ∃ (m' : Loc -> Nat × Nat) (u : Value) (w' : World), Ran P o a w u w' /\ RelX X F m' { s with H := upds s.H [(nm, .cells e sz rows)] } a w' /\ RF w' F (fun l => upds s.H [(nm, .cells e sz rows)] l ≠ none) m' (.sl nm sz 0 rows.length) u := by
  intro hnm A hA hne hb h62
  obtain ⟨m', cap', w', g1, g2, g3⟩ := d1n (base := A) (len := 0) (cap := 0) (olds := []) (orows := []) (ty := o.type) h hu hi hisz hzc hzsz h0 hnm (b3s _ _ _ _) hsrc' ya rfl (by simpa using h62) (by simpa using hb) (by simpa using hnews) (by simpa using hrl)
  simp only [A2u, A3u] at g1 g2 g3
  exact ⟨m', _, w', hexec _ _ (by rw [hA]; exact g1), g2, g3⟩
 split at hs
 . rename_i hx
   rw [hx] at hxv
   generalize hxe : a.eval x = vx at hxv
   cases hxv
   split at hs
   . rename_i hr
     simp only [A5v, A0i] at hs
     obtain ⟨rfl, rfl⟩ := hs
     exact ⟨m, _, w, hexec _ _ (by rw [hxe]; exact nothing (A5s _) (by simpa using hr)), h, .nils⟩
   . rename_i hr
     split at hs
     case isFalse => cases hs
     rename_i hb
     simp only [A5t, A5w, A1i] at hb
     simp only [A5v, A0i] at hs
     obtain ⟨rfl, rfl⟩ := hs
     exact fresh hb.2.2 hxe (by simpa using hr) hb.1 hb.2.1
 . rename_i hx
   rw [hx] at hxv
   generalize hxe : a.eval x = vx at hxv
   cases hxv with
   | emp A =>
   split at hs
   case isFalse => cases hs
   rename_i hb
   simp only [A5t, A5w, A1i] at hb
   simp only [A5v, A0i] at hs
   obtain ⟨rfl, rfl⟩ := hs
   by_cases hr : rows.length = 0
   . have hrn : rows = [] := A5u hr
     subst hrn
     exact ⟨_, _, w, hexec _ _ (by rw [hxe]; exact nothing (A5s _) hr), h.ghost0 (T := e) (sz := sz) hb.2.2, .sl0 nm sz 0 A z1d yd⟩
   . exact fresh hb.2.2 hxe hr hb.1 hb.2.1
 . rename_i l sz' len hx
   split at hs
   case h_2 => cases hs
   rename_i T sz'' xs hl
   split at hs
   case isFalse => cases hs
   rename_i hc
   simp only [A5t, A5w, A1i] at hc
   obtain ⟨⟨e1, e2⟩, e3, hle, hb, h62, hnm⟩ := hc
   simp only [A5v, A0i] at hs
   obtain ⟨rfl, rfl⟩ := hs
   rw [hx, e1] at hxv
   rw [e2, e3] at hl
   clear e1 e2 e3
   have hll : l ≠ nm := fun e => by rw [e, hnm] at hl; cases hl
   have hH : ∀ q q', upds s.H [(l, .dead), (nm, .cells e sz q)] = upd (upd (upd s.H l q') l .dead) nm (.cells e sz q) := fun q q' => by
    simp only [upds, A2i, A2h]
    congr 1
    funext k
    unfold upd
    split <;> rfl
   have still : ∀ {A : Option Addr} {cap : Nat}, rows = [] -> a.eval x = .slice A len cap -> len <= cap -> Ran P o a w (.slice A len cap) w /\ RelX X F (fun k => if k = nm then m l else m k) { s with H := upds s.H [(l, .dead), (nm, .cells e sz (xs.take len ++ []))] } a w := by
    intro A cap hr hA hle'
    refine ⟨hexec _ _ (by rw [hA]; exact nothing hle' (by rw [hr]; rfl)), ?_⟩
    rw [hH _ (.cells e sz (xs.take len)), A3x]
    exact (h.cut hl hle).rename (l := l) (l' := nm) (T := e) (sz := sz) (xs := xs.take len) z1a (by simp [upd, hnm]; intro e; exact absurd e.symm hll)
   have growO : ∀ {A : Option Addr} {cap : Nat} {olds : List Value}, a.eval x = .slice A len cap -> cap < len + rows.length -> (Builtin.firstCells i.size len (.slice A len cap)).run P w.drew = .ok olds.toArray w.drew -> RFs w F (fun k => s.H k ≠ none) m (xs.take len).flatten olds ->
    (∀ r ∈ xs.take len, r.length = sz) ->
    ∃ (m' : Loc -> Nat × Nat) (u : Value) (w' : World), Ran P o a w u w' /\ RelX X F m' { s with H := upds s.H [(l, .dead), (nm, .cells e sz (xs.take len ++ rows))] } a w' /\ RF w' F (fun k => upds s.H [(l, .dead), (nm, .cells e sz (xs.take len ++ rows))] k ≠ none) m' (.sl nm sz 0 (len + rows.length)) u := by
    intro A cap olds hA hg hold hor horl
    obtain ⟨m', cap', w', g1, g2, g3⟩ := d1n (base := A) (orows := xs.take len) (ty := o.type) h hu hi hisz hzc hzsz h0 hnm hold hsrc' hg yz h62 ya (by rw [A3k]; exact hor.append hnews) (fun r hr => by
     rcases A0o.1 hr with hr | hr
     . exact horl r hr
     . exact hrl r hr)
    have hcomm : upds s.H [(l, .dead), (nm, .cells e sz (xs.take len ++ rows))] = upd (upd s.H nm (.cells e sz (xs.take len ++ rows))) l .dead := d2c hll
    refine ⟨m', _, w', hexec _ _ (by rw [hA]; exact g1), g2.weaken ⟨rfl, fun t => .inr rfl, fun k => ?_⟩, g3.keep (fun _ h => h) (fun _ _ => rfl) (fun k hk => ?_) (fun _ _ => rfl)⟩
    . show upds s.H _ k = _ \/ upds s.H _ k = _
      rw [hcomm]
      by_cases e : k = l
      . right; simp [upd, e]
      . left; simp [upd, e]
    . rw [hcomm]
      unfold upd at hk ⊢
      split
      . simp
      . exact hk
   generalize hxe : a.eval x = vx at hxv
   cases hxv with
   | sl _ _ _ _ cap o' hul hcap hoff hfit =>
     by_cases hr0 : rows.length = 0
     . have hrn : rows = [] := A5u hr0
       subst hrn
       obtain ⟨g1, g2⟩ := still rfl hxe hcap
       refine ⟨_, _, w, g1, g2, ?_⟩
       have := RF.sl (w := w) (F := F) (U := fun k => upds s.H [(l, .dead), (nm, .cells e sz (xs.take len ++ []))] k ≠ none) (m := fun k => if k = nm then m l else m k) nm sz 0 len cap o' z1d hcap hoff (by simpa using hfit)
       simpa using this
     by_cases hroom : len + rows.length <= cap
     . have hcap0 : ¬ cap = 0 := by omega
       have hoff' : o' = 0 := by have := hoff.resolve_left hcap0; simpa using this
       subst hoff'
       have hm0 : (m l).2 ≠ 0 := by
        intro hz
        rw [hz] at hfit
        have : 0 < (0 + cap) * sz := Nat.mul_pos ya h0
        omega
       obtain ⟨w', g1, g2⟩ := h.extend (P := P) (len := len) hl hm0 hle (by
        refine A0a (A1z _ hroom) ?_
        simpa using hfit) hrl hnews hsrc.one
       have hrun : (Builtin.append_ #[t, tx] o.type #[.slice (some ⟨(m l).1, 0, none⟩) len cap, a.eval y]).run P w = .ok (.slice (some ⟨(m l).1, 0, none⟩) (len + rows.length) cap) w' := by
        have g1' := g1
        rw [<- hisz] at g1'
        rcases hsrc'.kind with ⟨e', hk⟩ | hk <;> simp [Builtin.append_, run_underlying hu, run_underlying hk, sizeOf, typeInfo, hi, hsrc'.len, hroom, hsrc'.cells, Addr.add_lit, g1']
       have hR := g2.rename (l := l) (l' := nm) (T := e) (sz := sz) (xs := xs.take len ++ rows) z1a (by simp [upd, hnm]; intro e; exact absurd e.symm hll)
       refine ⟨fun k => if k = nm then m l else m k, _, w', hexec _ _ (by rw [hxe]; exact hrun), ?_, ?_⟩
       . rw [hH _ (.cells e sz (xs.take len ++ rows))]
         exact hR
       . have := RF.sl (w := w') (F := F) (U := fun k => upds s.H [(l, .dead), (nm, .cells e sz (xs.take len ++ rows))] k ≠ none) (m := fun k => if k = nm then m l else m k) nm sz 0 (len + rows.length) cap 0 z1d hroom (.inr yd) (by simpa using hfit)
         simpa using this
     . by_cases hl0 : len = 0
       . subst hl0
         exact growO (olds := []) hxe (Nat.lt_of_not_le hroom) (b3s _ _ _ _) (by simpa using RFs.nil) yd
       . have hoff' : o' = 0 := by have := hoff.resolve_left ya; simpa using this
         have hm0 : (m l).2 ≠ 0 := by
          intro hz
          rw [hz] at hfit
          have : 0 < (0 + cap) * sz := Nat.mul_pos ya h0
          omega
         rcases h.heap.obj l _ hl with ⟨_, h00⟩ | ⟨_, cur, q1, q2, q3, q4, q5⟩
         . exact absurd h00 hm0
         have hmul : len * sz <= xs.length * sz := A1z _ hle
         refine growO (olds := cur.toList.take (len * sz)) hxe (Nat.lt_of_not_le hroom) (run_firstCells_some w.drew i.size len _ len cap _ (by rw [hisz]; simp; omega) fun j u hj => ?_) ?_ (fun r hr => q3 r (A0t hr))
         . rw [A0p] at hj
           split at hj
           . rw [add0, hoff', A3u]
             show w.cell? _ = _
             rw [a5a q1]
             simpa using hj
           . cases hj
         . have := q5.take (len * sz)
           rw [A1c, A0w hmul, <- a4m len xs q3] at this
           exact this
   | sl0 _ _ _ A hul hm0 =>
     by_cases hr0 : rows.length = 0
     . have hrn : rows = [] := A5u hr0
       subst hrn
       obtain ⟨g1, g2⟩ := still rfl hxe (A5s _)
       refine ⟨_, _, w, g1, g2, ?_⟩
       have := RF.sl0 (w := w) (F := F) (U := fun k => upds s.H [(l, .dead), (nm, .cells e sz (xs.take 0 ++ []))] k ≠ none) (m := fun k => if k = nm then m l else m k) nm sz 0 A z1d (by simpa using hm0)
       simpa using this
     . exact growO (olds := []) hxe ya (b3s _ _ _ _) (by simpa using RFs.nil) yd
 . cases hs
end
section
variable {P : Program} {X : Ctx} {c : Cfg} {w w' : World} {F F' : Nat -> Prop} {U : Loc -> Prop} {m m' : Loc -> Nat × Nat} {s s' : Fs} {a a' : Act} {o : Oper} {H : Heap}
theorem RelX.splice (h : RelX X F m s a w) {off : Nat} {vs : List Value} (hl : s.H l = some (.cells T sz xs)) (h0 : (m l).2 ≠ 0) (hle : off + rows.length <= xs.length)
 (hrow : ∀ r ∈ rows, r.length = sz) (hv : RFs w F (fun k => s.H k ≠ none) m rows.flatten vs) (h1 : ∀ v ∈ vs, v.oneCell' = true) :
 ∃ w', (storeCells ⟨(m l).1, off * sz, none⟩ vs).run P w = .ok () w' /\ RelX X F m { s with H := upd s.H l (.cells T sz (xs.take off ++ (rows ++ xs.drop (off + rows.length)))) } a w' := by
 have hvl : vs.length = rows.length * sz := by rw [<- hv.length]; exact a3q sz rows hrow
 rcases h.heap.obj l _ hl with ⟨_, h00⟩ | ⟨_, cur, g1, g2, g3, g4, g5⟩
 . exact absurd h00 h0
 have hmul : (off + rows.length) * sz <= xs.length * sz := A1z _ hle
 have hadd : (off + rows.length) * sz = off * sz + vs.length := by rw [A1d, hvl]
 have hst := run_storeCells_at P (m l).1 (off * sz) T vs 0 cur w g1 ya h1
 simp only [A3h] at hst
 refine ⟨_, hst, ?_⟩
 have hlive : Live s.H m l := ⟨_, hl, by simp, h0⟩
 have hU : ∀ k, s.H k ≠ none -> upd s.H l (.cells T sz (xs.take off ++ (rows ++ xs.drop (off + rows.length)))) k ≠ none := fun k hk => by unfold upd; split <;> simp [hk]
 have hFne : ∀ b, F b -> (w.setRow (m l).1 (cur.toList.take (off * sz) ++ vs ++ cur.toList.drop (off * sz + vs.length)).toArray).heap[b]? = w.heap[b]? := fun b hb =>
  setRow_other w _ b _ (fun e => (h.heap.old l hlive).2 (e ▸ hb))
 have hnl : (xs.take off ++ (rows ++ xs.drop (off + rows.length))).length = xs.length := by simp; omega
 refine h.write hl hlive yd (by simp [World.setRow]) (fun b _ hb => setRow_other w _ b _ hb) rfl rfl rfl (.inr ⟨h0, _, setRow_heap w _ cur _ T _ g1, ?_, ?_, ?_, ?_⟩)
 . simp; omega
 . intro x hx
   rcases A0o.1 hx with hx | hx
   . exact g3 x (A0t hx)
   . rcases A0o.1 hx with hx | hx
     . exact hrow x hx
     . exact g3 x (A1n hx)
 . rw [hnl]
   simp only [List.size_toArray, A0b, A0j, A1y, A3l]
   omega
 . rw [A3k, A3k, a4m off xs g3, a8n _ xs g3]
   have e3 : ((cur.toList.take (off * sz) ++ vs ++ cur.toList.drop (off * sz + vs.length)).toArray.toList.take ((xs.take off ++ (rows ++ xs.drop (off + rows.length))).length * sz)) =
    (cur.toList.take (xs.length * sz)).take (off * sz) ++ (vs ++ (cur.toList.take (xs.length * sz)).drop ((off + rows.length) * sz)) := by
    rw [hnl, A5f, A1c, A0w ya, A3g, List.take_append, A6a yz]
    congr 1
    rw [List.take_append, A6a yz]
    congr 1
    rw [hadd, List.drop_take, A0j, A0w yz]
    congr 1
    omega
   rw [e3]
   have hk := g5.keep (F' := F) (fun _ h => h) hFne hU (fun _ _ => rfl) (m' := m)
   exact (hk.take _).append ((hv.keep (fun _ h => h) hFne hU (fun _ _ => rfl)).append (hk.drop _))
def c7n (P : Program) (H : Heap) (t : TypeId) (x : FV) : Option (LF × FV) := match x with
 | .nilm => if hasT P t then some ([], .tup []) else none
 | .nils => if hasT P t then some ([], .tup []) else none
 | .emp => if hasT P t then some ([], .tup []) else none
 | .mp l => match H l, P.underlying t with
   | some (.map _ clk), some (.map _ _) => some ([(l, .map [] clk)], .tup [])
   | _, _ => none
 | .sl _ _ _ 0 => if hasT P t then some ([], .tup []) else none
 | .sl l sz off len => match H l, slT P t with
   | some (.cells T sz'' xs), some (e, sz') => match a2y P e with
     | some z => if (decide (sz' = sz) && decide (sz'' = sz)) && (decide (z.length = sz) && (decide (0 < sz) && (decide (off + len <= xs.length) && z.all FV.cellV))) then some ([(l, .cells T sz (xs.take off ++ (List.replicate len z ++ xs.drop (off + len))))], .tup []) else none
     | none => none
   | _, _ => none
 | _ => none
theorem d4d {x : Operand} (hs : c7n P s.H t (rv s x) = some (us, v)) (ho : o.op = .call { callee := .builtin .clear, args := ⟨[x]⟩, argTypes := ⟨[t]⟩ }) : WOk P s o us v := by
 intro X F m a w h
 have hexec : ∀ w', (Builtin.clear_ #[t] o.type #[a.eval x]).run P w = .ok (.tuple #[]) w' -> Ran P o a w (.tuple #[]) w' := fun w' hr => .inl (by simp [execOp, ho, resolve, invoke, builtin, hr])
 have hxv := a1n h x
 have unit : ∀ w', RF w' F (fun l => upds s.H us l ≠ none) m (.tup []) (.tuple #[]) := fun w' => .tup [] [] .nil
 have none' : us = [] -> v = .tup [] -> (Builtin.clear_ #[t] o.type #[a.eval x]).run P w = .ok (.tuple #[]) w -> ∃ (m' : Loc -> Nat × Nat) (u : Value) (w' : World), Ran P o a w u w' /\ RelX X F m' { s with H := upds s.H us } a w' /\ RF w' F (fun l => upds s.H us l ≠ none) m' v u := by
  rintro rfl rfl hr
  exact ⟨m, _, w, hexec _ hr, h, unit w⟩
 unfold c7n at hs
 split at hs
 . rename_i hx
   split at hs
   case isFalse => cases hs
   rename_i ht
   obtain ⟨d, hd⟩ := A1g.1 ht
   simp only [A5v, A0i] at hs
   rw [hx] at hxv
   generalize hxe : a.eval x = vx at hxv
   cases hxv
   refine none' hs.1.symm hs.2.symm ?_
   rw [hxe]; simp [Builtin.clear_, run_underlying hd]
 . rename_i hx
   split at hs
   case isFalse => cases hs
   rename_i ht
   obtain ⟨d, hd⟩ := A1g.1 ht
   simp only [A5v, A0i] at hs
   rw [hx] at hxv
   generalize hxe : a.eval x = vx at hxv
   cases hxv
   refine none' hs.1.symm hs.2.symm ?_
   rw [hxe]; simp [Builtin.clear_, run_underlying hd]
 . rename_i hx
   split at hs
   case isFalse => cases hs
   rename_i ht
   obtain ⟨d, hd⟩ := A1g.1 ht
   simp only [A5v, A0i] at hs
   rw [hx] at hxv
   generalize hxe : a.eval x = vx at hxv
   cases hxv with
   | emp A =>
   refine none' hs.1.symm hs.2.symm ?_
   rw [hxe]; cases A <;> simp [Builtin.clear_, run_underlying hd]
 . rename_i l hx
   split at hs
   case h_2 => cases hs
   rename_i es clk k e hl hu
   simp only [A5v, A0i] at hs
   obtain ⟨rfl, rfl⟩ := hs
   rw [hx] at hxv
   generalize hxe : a.eval x = vx at hxv
   cases hxv with
   | mp _ hul =>
   obtain ⟨h0, ar, g1, g2⟩ := h.heap.obj _ _ hl
   exact ⟨m, _, _, hexec _ (by rw [hxe]; simp [Builtin.clear_, run_underlying hu, a5r g1, b3d _ g1]), h.turn (o := .map [] clk) (ob := .map #[] clk) hl yd h0 yd g1 (fun w' q1 _ => ⟨h0, #[], q1, .nil⟩), unit _⟩
 . rename_i l sz off hx
   split at hs
   case isFalse => cases hs
   rename_i ht
   obtain ⟨d, hd⟩ := A1g.1 ht
   simp only [A5v, A0i] at hs
   rw [hx] at hxv
   generalize hxe : a.eval x = vx at hxv
   refine none' hs.1.symm hs.2.symm ?_
   rw [hxe]
   cases hxv with
   | sl => simp [Builtin.clear_, run_underlying hd]
   | sl0 _ _ _ A => cases A <;> simp [Builtin.clear_, run_underlying hd]
 . rename_i l sz off len hlen hx
   split at hs
   case h_2 => cases hs
   rename_i T sz'' xs e sz' hl ht
   obtain ⟨hu, hz⟩ := a3a ht
   split at hs
   case h_2 => cases hs
   rename_i z hzc
   split at hs
   case isFalse => cases hs
   rename_i hc
   simp only [A5t, A5w] at hc
   obtain ⟨⟨rfl, e2⟩, hzl, h0, hle, hcell⟩ := hc
   rw [e2] at hl
   simp only [A5v, A0i] at hs
   obtain ⟨rfl, rfl⟩ := hs
   have hpos : len ≠ 0 := fun e => hlen e
   obtain ⟨zv, g1, g2, g3⟩ := b4v (w := w) (F := F) (U := fun k => s.H k ≠ none) (m := m) hzc
   have hbase := b9w (len := len) h0 hzl ya g2
   rw [hx] at hxv
   generalize hxe : a.eval x = vx at hxv
   cases hxv with
   | sl0 => exact absurd rfl hpos
   | sl _ _ _ _ cap o' hul hcap hoff hfit =>
   have hoff' := hoff.resolve_left ya
   subst hoff'
   have hm0 : (m l).2 ≠ 0 := by
    intro hz
    rw [hz] at hfit
    have : 0 < (off + cap) * sz' := Nat.mul_pos ya h0
    omega
   obtain ⟨w', k1, k2⟩ := h.splice (P := P) (off := off) (rows := List.replicate len z) hl hm0 (by simpa using hle) (fun r hr => by rw [A2r hr]; exact hzl) hbase (hbase.one (by
    rw [List.all_eq_true] at hcell ⊢
    intro x hx
    obtain ⟨r, hr, hxr⟩ := A4p.1 hx
    rw [A2r hr] at hxr
    exact hcell x hxr))
   rw [A0u] at k2
   have hzs : zv.cells.size = sz' := by omega
   have hb : (Builtin.zeroCells zv.cells len).toList = ((Array.range (len * sz')).map fun k => zv.cells[k % zv.cells.size]!).toList := by unfold Builtin.zeroCells; rw [hzs]
   refine ⟨m, _, w', hexec _ ?_, k2, unit _⟩
   rw [hxe]
   rw [<- hb] at k1
   cases len with
   | zero => exact absurd rfl hpos
   | succ n => simp [Builtin.clear_, run_underlying hu, g1, k1]
 . cases hs
def wv (P : Program) (H : Heap) (nm : Loc) (ρ : Operand -> FV) (o : Oper) : Option (LF × FV) := match o.op with
 | .alloc t => b4b P H nm t
 | .box t x => wBox H nm t (ρ x)
 | .store t ad x => a6u P H t (ρ ad) (ρ x)
 | .buildSlice t len parts => a5u P H ρ nm t len parts
 | .makeSlice t x y => b4a P H nm t (ρ x) (ρ y)
 | .makeMap _ r => b1y P H nm (r.map ρ)
 | .mapUpdate t x k v => b0z P H t (ρ x) (ρ k) (ρ v)
 | .insert t x k v => b0z P H t (ρ x) (ρ k) (ρ v)
 | .range t x => b1w P H nm t (ρ x)
 | .next it str => e2z H (ρ it) str
 | .call { callee := .builtin .append, args := ⟨[x, y]⟩, argTypes := ⟨[t, tx]⟩ } => wApp P H nm t tx (ρ x) (ρ y)
 | .call { callee := .builtin .clear, args := ⟨[x]⟩, argTypes := ⟨[t]⟩ } => c7n P H t (ρ x)
 | _ => (pv P H ρ o).map fun v => ([], v)
theorem g5w (hs : wv P s.H nm (rv s) o = some (us, v)) : WOk P s o us v := by
 unfold wv at hs
 split at hs
 . exact d4e hs ‹_›
 . exact f1r hs ‹_›
 . exact d3x hs ‹_›
 . exact d1z hs ‹_›
 . exact d4b hs ‹_›
 . exact d4c hs ‹_›
 . exact c7m hs (.inl ‹_›)
 . exact c7m hs (.inr ‹_›)
 . exact d3z hs ‹_›
 . exact e2y hs ‹_›
 . exact f1s hs ‹_›
 . exact d4d hs ‹_›
 . rw [A5q] at hs
   obtain ⟨y, hy, e⟩ := hs
   simp only [A0i] at e
   obtain ⟨rfl, rfl⟩ := e
   intro X F m a w h
   obtain ⟨u, h1, h2⟩ := g7l h hy
   exact ⟨m, u, w, .inl h1, h, h2⟩
end
def ext (H A : Heap) : Heap := fun l => match A l with
 | some o => some o
 | none => H l
def noH : Heap := fun _ => none
theorem a3r (H : Heap) : ext H noH = H := rfl
section
variable {P : Program} {X : Ctx} {c : Cfg} {w w' : World} {F F' : Nat -> Prop} {m m' : Loc -> Nat × Nat} {s s' : Fs} {a a' : Act} {o : Oper}
def HSub (H1 H : Heap) : Prop := ∀ l o, H1 l = some o -> H l = some o
theorem HSub.refl (H : Heap) : HSub H H := fun _ _ h => h
theorem HSub.ne (h : HSub H1 H) (hl : H1 l ≠ none) : H l ≠ none := by
 obtain ⟨o, ho⟩ := A0x.1 hl
 rw [h l o ho]; simp
theorem HeapR.sub (hs : HSub H1 H) (hU : ∀ l, H l ≠ none -> H1 l ≠ none \/ True) (h : HeapR w F m H) (hv : ∀ l o, H1 l = some o -> OR w F H1 m l o) : HeapR w F m H1 :=
 ⟨hv, fun l l' hl hl' e => h.inj l l' z40 (by obtain ⟨o, g1, g2⟩ := hl'; exact ⟨o, hs l' o g1, g2⟩) e,
  fun l hl => h.old l z40⟩
theorem d3j (hs : HSub H1 H) (h : b4s P H1 t x = some y) : b4s P H t x = some y := by
 unfold b4s at h ⊢
 split at h
 case h_3 => exact h
 . cases h
 . split at h
   . rename_i l sz i off
     split at h
     . rename_i T sz' xs hl
       simp only [hs _ _ hl]
       exact h
     . cases h
   . exact h
   . cases h
 . split at h
   . rename_i l sz i off
     split at h
     . rename_i T sz' xs hl
       simp only [hs _ _ hl]
       exact h
     . cases h
   . exact h
   . cases h
theorem e0h (hs : HSub H1 H) (h : fLen P H1 t x = some y) : fLen P H t x = some y := by
 unfold fLen at h ⊢
 split at h
 case h_6 =>
  split at h
  . rename_i hu hl
    simp only [hu, hs _ _ hl]
    exact h
  . cases h
 all_goals exact h
theorem e4s (hs : HSub H1 H) (h : pv1 P H1 ρ o = some y) : pv1 P H ρ o = some y := by
 unfold pv1 at h ⊢
 split at h
 case h_10 => exact d3j hs h
 case h_14 => exact e0h hs h
 all_goals exact h
theorem d6y (h : ∀ x ∈ o.op.operands.toList, ρ' x = ρ x) : pv1 P H ρ' o = pv1 P H ρ o := by
 unfold pv1
 split
 case h_8 =>
  rename_i t parts ho
  rw [ho] at h
  have e : (parts.toList.map (·.2)).map ρ' = (parts.toList.map (·.2)).map ρ := A1f fun x hx => h x z38
  rw [e]
 case h_12 =>
  rename_i t x lo hi ho
  rw [ho] at h
  simp only [Op.operands] at h
  rw [h x yd]
  have e1 : lo.map ρ' = lo.map ρ := by cases lo with
   | none => rfl
   | some y => simp only [A0s]; rw [h y yd]
  have e2 : hi.map ρ' = hi.map ρ := by cases hi with
   | none => rfl
   | some y => simp only [A0s]; rw [h y yd]
  rw [e1, e2]
 case h_13 =>
  rename_i f first caps ho
  rw [ho] at h
  simp only [Op.operands] at h
  have e1 : first.toList.map ρ' = first.toList.map ρ := A1f fun x hx => h x (by simp at hx ⊢; simp [hx])
  have e2 : caps.toList.map ρ' = caps.toList.map ρ := A1f fun x hx => h x (by simp at hx ⊢; simp [hx])
  rw [e1, e2]
 all_goals first
  | rfl
  | (rename_i ho
     rw [ho] at h
     simp only [Op.operands, Call.operands] at h
     simp only [A0m, A3m, or_false, forall_eq_or_imp, forall_eq, A2u, A4j, A0o, false_or] at h
     first
      | rw [h]
      | rw [h.1, h.2]
      | rw [h.1, h.2.1, h.2.2]
      | (simp only [h])
      | (simp only [h.1, h.2]))
theorem d3i (hs : HSub H1 H) {i : FV} {ok : Bool} (h : b2w P H1 t x i ok = some y) : b2w P H t x i ok = some y := by
 unfold b2w at h ⊢
 split at h
 . cases h
 split at h
 case isFalse => cases h
 rename_i hk
 simp only [hk, if_true]
 split at h
 . split at h
   . rename_i hl
     simp only [hs _ _ hl]
     exact h
   . cases h
 . exact h
 . cases h
theorem c6r (hs : HSub H1 H) {it : FV} (h : b4i H1 it = some y) : b4i H it = some y := by
 unfold b4i at h ⊢
 split at h
 case h_2 => cases h
 split at h
 case h_2 => cases h
 rename_i hl
 split at h
 case h_2 => cases h
 rename_i hk
 simp only [hs _ _ hl, hs _ _ hk]
 exact h
theorem e4q (hs : HSub H1 H) (h : pv2 P H1 ρ o = some y) : pv2 P H ρ o = some y := by
 unfold pv2 at h ⊢
 split at h
 case h_1 => exact d3i hs h
 case h_9 => exact c6r hs h
 all_goals exact h
theorem d6x (h : ∀ x ∈ o.op.operands.toList, ρ' x = ρ x) : pv2 P H ρ' o = pv2 P H ρ o := by
 unfold pv2
 split
 case h_7 =>
  rename_i x xs ts ho
  rw [ho] at h
  simp only [Op.operands, Call.operands] at h
  rw [h x yd, A1f fun y hy => h y (by simp [hy])]
 case h_8 =>
  rename_i x xs ts ho
  rw [ho] at h
  simp only [Op.operands, Call.operands] at h
  rw [h x yd, A1f fun y hy => h y (by simp [hy])]
 case h_10 =>
  rename_i t parts ho
  rw [ho] at h
  have e : (parts.toList.map (·.2)).map ρ' = (parts.toList.map (·.2)).map ρ := A1f fun x hx => h x z38
  unfold b3t
  rw [e]
 case h_11 =>
  rename_i t x lo hi mx ho
  rw [ho] at h
  simp only [Op.operands] at h
  rw [h x yd, h mx yd]
  have e1 : lo.map ρ' = lo.map ρ := by cases lo with
   | none => rfl
   | some y => simp only [A0s]; rw [h y yd]
  have e2 : hi.map ρ' = hi.map ρ := by cases hi with
   | none => rfl
   | some y => simp only [A0s]; rw [h y yd]
  rw [e1, e2]
 all_goals first
  | rfl
  | (rename_i ho
     rw [ho] at h
     simp only [Op.operands, Call.operands] at h
     simp only [A0m, A3m, or_false, forall_eq_or_imp, forall_eq, A2u, A4j, A0o, false_or] at h
     first
      | rw [h]
      | rw [h.1, h.2]
      | (simp only [h])
      | (simp only [h.1, h.2]))
theorem e4r (h : pv2 P H1 ρ o = some y) : pv1 P H ρ o = pv1 P H1 ρ o := by
 unfold pv2 at h
 split at h
 case h_12 => cases h
 case h_10 =>
  rename_i ho
  simp only [pv1, ho]
 all_goals
  rename_i ho
  simp only [pv1, ho]
theorem f3y (hs : HSub H1 H) (h : pv P H1 ρ o = some y) : pv P H ρ o = some y := by
 unfold pv at h ⊢
 cases h1 : pv1 P H1 ρ o with
 | some z => rw [h1] at h; rw [e4s hs h1]; exact h
 | none =>
   rw [h1] at h
   rw [e4r h, h1]
   exact e4q hs h
theorem e4p (h : ∀ x ∈ o.op.operands.toList, ρ' x = ρ x) : pv P H ρ' o = pv P H ρ o := by
 unfold pv
 rw [d6y h, d6x h]
theorem c3a (hs : HSub H1 H) {r : List (List FV)} (h : srcA H1 sz x = some r) : srcA H sz x = some r := by
 unfold srcA at h ⊢
 split at h
 . exact h
 . exact h
 . exact h
 . split at h
   . rename_i hl
     simp only [hs _ _ hl]
     exact h
   . cases h
 . cases h
theorem f1l (hs : HSub H1 H) (h : wv P H1 nm ρ o = some (us, v)) (hf : ∀ u ∈ us, H u.1 = none) : wv P H nm ρ o = some (us, v) := by
 have bad : ∀ {l : Loc} {ob ob' : FO} {y : FV} {z : FV}, H1 l = some ob -> some ([(l, ob')], y) = some (us, z) -> False := fun {l ob ob' y z} hl he => by
  simp only [A5v, A0i] at he
  obtain ⟨rfl, _⟩ := he
  have := hf (l, ob') yd
  rw [hs _ _ hl] at this
  cases this
 have new : ∀ {l : Loc} {ob' : FO} {y : FV} {z : FV}, some ([(l, ob')], y) = some (us, z) -> H l = none := fun {l ob' y z} he => by
  simp only [A5v, A0i] at he
  obtain ⟨rfl, _⟩ := he
  exact hf (l, ob') yd
 unfold wv at h ⊢
 split at h
 . unfold b4b at h ⊢
   split at h
   case h_2 => cases h
   split at h
   case isFalse => cases h
   have hn : H nm = none := by
    split at h
    . exact new h
    . exact new h
   simp only [hn, A1u, if_true]
   exact h
 . unfold wBox at h ⊢
   split at h
   case isFalse => cases h
   rename_i hc
   simp only [A5t] at hc
   simp only [hc.1.1, hc.1.2, new h, A1u, A3j, if_true]
   exact h
 . unfold a6u at h ⊢
   split at h
   case h_1 => exact h
   case h_3 => cases h
   exfalso
   split at h
   case h_2 => cases h
   rename_i hl
   split at h
   case h_2 => cases h
   split at h
   case isFalse => cases h
   exact bad hl h
 . unfold a5u at h ⊢
   split at h
   case h_2 => cases h
   split at h
   case h_2 => cases h
   split at h
   case isFalse => cases h
   rename_i hc
   rw [A5t] at hc
   have hnm : H nm = none := by
    rw [A1h] at h
    obtain ⟨r, _, h⟩ := h
    split at h
    . exact new h
    . cases h
   simp only [hc.1, hnm, A1u, A3j, if_true]
   exact h
 . unfold b4a at h ⊢
   split at h
   case h_2 => cases h
   split at h
   case h_2 => cases h
   split at h
   case isFalse => cases h
   rename_i hc
   rw [A5t] at hc
   simp only [hc.1, new h, A1u, A3j, if_true]
   exact h
 . unfold b1y at h ⊢
   split at h
   . split at h
     . simp only [new h, A1u, if_true]; exact h
     . cases h
   . cases h
 . exfalso
   unfold b0z at h
   split at h
   case h_2 => cases h
   split at h
   case h_2 => cases h
   rename_i hl
   split at h
   case isFalse => cases h
   split at h
   . exact bad hl h
   . exact bad hl h
   . cases h
 . exfalso
   unfold b0z at h
   split at h
   case h_2 => cases h
   split at h
   case h_2 => cases h
   rename_i hl
   split at h
   case isFalse => cases h
   split at h
   . exact bad hl h
   . exact bad hl h
   . cases h
 . unfold b1w at h ⊢
   split at h
   . cases h
   split at h
   case isFalse => cases h
   split at h
   . split at h
     . rename_i hl
       simp only [hs _ _ hl, new h, A1u, if_true]; exact h
     . cases h
   . simp only [new h, A1u, if_true]; exact h
   . cases h
 . unfold e2z at h ⊢
   split at h
   case h_2 => cases h
   split at h
   . rename_i hl
     simp only [hs _ _ hl]; exact h
   . rename_i hl
     split at h
     case h_2 => cases h
     rename_i hk
     simp only [hs _ _ hl, hs _ _ hk]
     exact h
   . cases h
 . unfold wApp at h ⊢
   split at h
   case h_2 => cases h
   split at h
   case h_2 => cases h
   split at h
   case isFalse => cases h
   rename_i hc0
   split at h
   case h_2 => cases h
   rename_i hsrc
   split at h
   case isFalse => cases h
   rename_i hcell
   simp only [c3a hs hsrc, hcell, hc0, if_true]
   split at h
   . split at h
     . rename_i hr; simp only [hr, if_true]; exact h
     . rename_i hr
       split at h
       case isFalse => cases h
       rename_i hc
       rw [A5t, A5t] at hc
       simp only [hr, hc.1, hc.2.1, new h, A1u, A3j, if_true]
       exact h
   . split at h
     case isFalse => cases h
     rename_i hc
     rw [A5t, A5t] at hc
     simp only [hc.1, hc.2.1, new h, A1u, A3j, if_true]
     exact h
   . exfalso
     split at h
     . rename_i l _ _ _ _ _ _ hl
       split at h
       case isFalse => cases h
       simp only [A5v, A0i] at h
       obtain ⟨rfl, _⟩ := h
       have := hf (_, FO.dead) (A3r ..)
       rw [hs _ _ hl] at this
       cases this
     . cases h
   . cases h
 . unfold c7n at h ⊢
   split at h
   . exact h
   . exact h
   . exact h
   . exfalso
     split at h
     . rename_i hl _
       exact bad hl h
     . cases h
   . exact h
   . exfalso
     split at h
     . rename_i hl _
       split at h
       case h_2 => cases h
       split at h
       case isFalse => cases h
       exact bad hl h
     . cases h
   . cases h
 . rw [A5q] at h ⊢
   obtain ⟨y, hy, e⟩ := h
   exact ⟨y, f3y hs hy, e⟩
theorem b9y {parts : Array (Nat × Operand)} (h : ∀ x ∈ parts.toList.map (·.2), ρ' x = ρ x) : a5u P H ρ' nm t len parts = a5u P H ρ nm t len parts := by
 unfold a5u
 rw [A1f h]
theorem e2t (h : ∀ x ∈ o.op.operands.toList, ρ' x = ρ x) : wv P H nm ρ' o = wv P H nm ρ o := by
 unfold wv
 split
 case h_4 =>
  rename_i ho
  rw [ho] at h
  exact b9y fun x hx => h x z38
 case h_6 =>
  rename_i r ho
  rw [ho] at h
  cases r with
  | none => rfl
  | some y => simp only [A0s]; rw [h y (by simp [Op.operands])]
 case h_13 => rw [e4p h]
 all_goals first
  | rfl
  | (rename_i ho
     rw [ho] at h
     simp only [Op.operands, Call.operands] at h
     simp only [A0m, A3m, or_false, forall_eq_or_imp, forall_eq, A2u, A4j, A0o, false_or] at h
     first
      | rw [h]
      | rw [h.1, h.2]
      | rw [h.1, h.2.1, h.2.2]
      | (simp only [h])
      | (simp only [h.1, h.2])
      | (simp only [h.1, h.2.1, h.2.2]))
end
def FC (P : Program) (G : List (Nat × List Value)) (f : FuncId) (args : List FV) (H : Heap) (r : FV) (H' : Heap) : Prop :=
 ∀ (w : World) (F : Nat -> Prop) (m : Loc -> Nat × Nat) (vs : List Value), (∀ y, F y -> y < w.heap.size) -> a5g G F w -> RFs w F (fun l => H l ≠ none) m args vs -> HeapR w F m H ->
   Calls P f vs.toArray w fun e w' => ∃ (v : Value) (F' : Nat -> Prop) (m' : Loc -> Nat × Nat), e = .returned v /\ (∀ y, F y -> F' y) /\ (∀ y, F' y -> (F y \/ w.heap.size <= y) /\ y < w'.heap.size) /\
    (∀ l, H l ≠ none -> m' l = m l /\ H' l ≠ none) /\ RF w' F' (fun l => H' l ≠ none) m' r v /\ HeapR w' F' m' H' /\ (∀ l, Live H' m' l -> (∃ k, Live H m k /\ (m k).1 = (m' l).1) \/ w.heap.size <= (m' l).1) /\
    w.heap.size <= w'.heap.size /\ (∀ y, y < w.heap.size -> (∀ l, Live H m l -> (m l).1 ≠ y) -> w'.heap[y]? = w.heap[y]?) /\ w'.os = w.os /\ w'.tape = w.tape /\ w'.output = w.output
def fnOk (P : Program) (f : FuncId) : Bool := match P.funcs[f]? with
 | some fn => fn.name != "runtime.NumGoroutine" && fn.body.isSome
 | none => false
section
variable {P : Program} {X : Ctx} {c : Cfg} {w w' : World} {F F' : Nat -> Prop} {m m' : Loc -> Nat × Nat} {s s' : Fs} {a a' : Act} {o : Oper}
theorem d5s (h : RelX X F m s a w) : ∀ l : List Operand, RFs w F (fun l => s.H l ≠ none) m (l.map (rv s)) (l.map a.eval)
 | [] => .nil
 | x :: l => .cons _ _ _ _ (a1n h x) (d5s h l)
theorem RelX.called (h : RelX X F m s a w) {H' : Heap} (hF1 : ∀ y, F y -> F' y) (hF2 : ∀ y, F' y -> (F y \/ w.heap.size <= y) /\ y < w'.heap.size) (hm : ∀ l, s.H l ≠ none -> m' l = m l /\ H' l ≠ none) (hH : HeapR w' F' m' H')
 (hl : ∀ l, Live H' m' l -> (∃ k, Live s.H m k /\ (m k).1 = (m' l).1) \/ w.heap.size <= (m' l).1) (hsz : w.heap.size <= w'.heap.size) (hold : ∀ y, y < w.heap.size -> (∀ l, Live s.H m l -> (m l).1 ≠ y) -> w'.heap[y]? = w.heap[y]?)
 (hos : w'.os = w.os) (htape : w'.tape = w.tape) (hout : w'.output = w.output) : RelX X F' m' { s with H := H' } a w' := by
 refine { df := h.df, vsz := h.vsz, val := fun t => (h.val t).keep hF1 (fun b hb => hold b (h.frz b hb) fun l hl e => (h.heap.old l hl).2 (e ▸ hb)) (fun l hl => (hm l hl).2) (fun l hl => (hm l hl).1), heap := hH, own := fun l hl' => ?_, ext := fun l hl' => (hm l (h.ext l hl')).2, mfix := fun l hl' => (hm l (h.ext l hl')).1.trans (h.mfix l hl'),
          frz := fun b hb => (hF2 b hb).2, keep := fun b hb hn => ?_, size := A0a h.size hsz, os := hos.trans h.os, tape := htape.trans h.tape, output := hout.trans h.output }
 . rcases hl l hl' with ⟨k, h1, h2⟩ | h1
   . rw [<- h2]
     exact h.own k h1
   . exact .inr z2b
 . rw [hold b z2b fun l hl' e => ?_]
   . exact h.keep b hb hn
   . rcases h.own l hl' with h1 | h1
     . exact hn (e ▸ h1)
     . omega
def a0l (s : Fs) (o : Oper) : Option (FuncId × List FV) := match o.op with
 | .call { callee := .value x, args, argTypes := _ } => match rv s x with
   | .clo f first caps => some (f, first ++ args.toList.map (rv s) ++ caps)
   | _ => none
 | _ => none
theorem c6z {f : FuncId} {A : List FV} {r : FV} {H' : Heap} {s1 : Fs} {K : Act -> World -> Prop} (hc : a0l s o = some (f, A)) (hf : fnOk P f = true) (hfc : FC P c.G f A s.H r H')
 (hp : putD c o r { s with H := H' } = some s1) (h : Rel X c s a w) (hK : ∀ v w', Rel X c s1 (a.put o.dst v) w' -> K (a.put o.dst v) w') : o.wp P a w K Q := by
 obtain ⟨hN, F, m, h1, h2, h⟩ := h
 unfold a0l at hc
 split at hc
 case h_2 => cases hc
 rename_i x args ts ho
 split at hc
 case h_2 => cases hc
 rename_i g first caps hx
 simp only [A5v, A0i] at hc
 obtain ⟨rfl, rfl⟩ := hc
 have hxv := a1n h x
 rw [hx] at hxv
 generalize hvx : a.eval x = vx at hxv
 cases hxv with
 | clo _ _ _ us vs g1 g2 =>
 have hargs : RFs w F (fun l => s.H l ≠ none) m (first ++ args.toList.map (rv s) ++ caps) (us ++ args.toList.map a.eval ++ vs) := (g1.append (d5s h _)).append g2
 have hrun : (execOp a.eval o).run P w = .ok (.enter g (us ++ args.toList.map a.eval ++ vs).toArray) w := by
  unfold fnOk at hf
  split at hf
  . rename_i fn hfn
    simp only [A5t, bne_iff_ne, ne_eq] at hf
    have hb : ¬ fn.body = none := fun hh => by rw [hh] at hf; simp at hf
    have e : (us ++ args.toList.map a.eval ++ vs).toArray = us.toArray ++ args.map a.eval ++ vs.toArray := by
     apply Array.ext'
     simp
    rw [e]
    simp [execOp, ho, resolve, hvx, Deferred.ofValue, invoke, callFunc, hfn, hb, hf.1]
  . cases hf
 unfold Oper.wp
 rw [hrun, Oper.upon_enter]
 refine (hfc w F m _ h.frz (h1.here h) hargs h.heap).mono ?_
 rintro e w' ⟨v, F', m', rfl, k1, k2, k3, k4, k5, k6, k7, k8, k9, k10, k11⟩
 have hR := h.called k1 k2 k3 k5 k6 k7 k8 k9 k10 k11
 refine hK v w' ⟨by rw [b0b]; exact hN, F', m', h1.more k1, fun y hy => ?_, c0p hR hN k4 hp⟩
 rcases (k2 y hy).1 with h' | h'
 . exact h2 y h'
 . exact .inr z2b
theorem b3b {K : Act -> World -> Prop} (hs : Snd P c o s s') (h : Rel X c s a w) (hK : ∀ v w', Rel X c s' (a.put o.dst v) w' -> K (a.put o.dst v) w') : o.wp P a w K Q := by
 obtain ⟨hN, F, m, h1, h2, h⟩ := h
 obtain ⟨m', v, w', hrun, h'⟩ := hs X F m a w hN h
 have := hK v w' ⟨by rw [b0b]; exact hN, F, m', h1, h2, h'⟩
 unfold Oper.wp
 rcases hrun with hrun | ⟨hrun, rfl⟩
 . rw [hrun]; exact this
 . rw [hrun]; exact this
def b1p (P : Program) (c : Cfg) (o : Oper) (s : Fs) : Option Fs := match wv P s.H (c.nm (o.dst.getD 0) s.ix) (rv s) o with
 | some (us, v) => putD c o v { s with H := upds s.H us }
 | none => none
theorem b2v (hs : b1p P c o s = some s') : Snd P c o s s' := by
 unfold b1p at hs
 split at hs
 . exact (g5w ‹_›).snd hs
 . cases hs
def a0x (ops : Array Oper) (o : Oper) (s : Fs) : Option Bool := match o.guard with
 | none => some true
 | some (j, want) => match (ops[j]?).bind (·.dst) with
   | some d => match s.get d with
     | .bool b => some (b == want)
     | .tup [] => some false
     | _ => none
   | none => none
def d1y (P : Program) (c : Cfg) (o : Oper) (s : Fs) (K : Fs -> Prop) : Prop := match a0l s o with
 | some (f, A) => fnOk P f = true /\ ∃ r H', FC P c.G f A s.H r H' /\ ∃ s1, putD c o r { s with H := H' } = some s1 /\ K s1
 | none => ∃ s1, b1p P c o s = some s1 /\ K s1
def wOps (P : Program) (c : Cfg) (ops : Array Oper) : List Oper -> (Fs -> Prop) -> Fs -> Prop
 | [], K, s => K s
 | o :: rest, K, s => match a0x ops o s with
   | some true => d1y P c o s (wOps P c ops rest K)
   | some false => ∃ s1, putD c o (.tup []) s = some s1 /\ wOps P c ops rest K s1
   | none => False
theorem a4a {b : Bool} (h : Rel X c s a w) (hg : a0x ops o s = some b) : Region.wanted o (yielded ops a.tmps) = b := by
 obtain ⟨_, F, m, _, _, h⟩ := h
 unfold a0x at hg
 unfold Region.wanted
 split at hg
 . rename_i hn; rw [hn]; simpa using hg
 . rename_i j want hj
   rw [hj]
   simp only
   split at hg
   . rename_i d hd
     split at hg
     . rename_i b' hb'
       have hv := h.val d
       rw [hb'] at hv
       generalize hvv : a.tmps.getD d undef = v at hv
       cases hv
       have : a.tmps[d]? = some (.bool b') := by
        rw [A2x] at hvv
        cases hh : a.tmps[d]? with
        | none => rw [hh] at hvv; simp [undef] at hvv
        | some u => rw [hh] at hvv; simpa using hvv
       have hy : yielded ops a.tmps j = some b' := by
        unfold yielded
        rw [hd, A2j, this]
       rw [hy]
       simpa using hg
     . rename_i hb'
       obtain rfl : false = b := by simpa using hg
       have hv := h.val d
       rw [hb'] at hv
       generalize hvv : a.tmps.getD d undef = v at hv
       cases hv with
       | tup _ vs hvs =>
       cases hvs
       have hy : yielded ops a.tmps j = none := by
        unfold yielded
        rw [hd, A2j]
        rw [A2x] at hvv
        cases hh : a.tmps[d]? with
        | none => rfl
        | some u => rw [hh] at hvv; simp only [A5z] at hvv; subst hvv; rfl
       rw [hy]
       rfl
     . cases hg
   . cases hg
theorem c0d {s1 : Fs} (h : Rel X c s a w) (hs : putD c o (.tup []) s = some s1) : Rel X c s1 (a.put o.dst undef) w := by
 obtain ⟨hN, F, m, h1, h2, h⟩ := h
 exact ⟨by rw [b0b]; exact hN, F, m, h1, h2, c0p h hN (RF.tup [] [] .nil) hs⟩
theorem b9x {ops : Array Oper} {Q : Exit -> Act -> World -> Prop} {K : Fs -> Prop} (hK : ∀ s a w, Rel X c s a w -> K s -> Q .normal a w) :
 ∀ (l : List Oper) (s : Fs) (a : Act) (w : World), Rel X c s a w -> wOps P c ops l K s -> wpList P ops Q l a w
 | [], s, a, w, h, hs => hK s a w h hs
 | o :: rest, s, a, w, h, hs => by
   have ih := b9x (ops := ops) hK rest
   simp only [wOps] at hs
   unfold wpList
   split at hs
   . rename_i hg
     rw [if_pos (a4a h hg)]
     left
     unfold d1y at hs
     split at hs
     . rename_i f A hc
       obtain ⟨hf, r, H', hfc, s1, hp, hs⟩ := hs
       exact c6z hc hf hfc hp h fun v w' h' => ih s1 _ _ h' hs
     . obtain ⟨s1, hst, hs⟩ := hs
       exact b3b (b2v hst) h fun v w' h' => ih s1 _ _ h' hs
   . rename_i hg
     rw [if_neg (by rw [a4a h hg]; simp)]
     obtain ⟨s1, hst, hs⟩ := hs
     exact ih s1 _ _ (c0d h hst) hs
   . exact hs.elim
end
section
variable {P : Program} {X : Ctx} {c : Cfg} {w w' : World} {F F' : Nat -> Prop} {m m' : Loc -> Nat × Nat} {s s' : Fs} {a a' : Act} {o : Oper}
def depT : Operand -> List Nat
 | .tmp t => [t]
 | _ => []
def f0f (ops : Array Oper) (o : Oper) : List Nat := match o.guard with
 | some (j, _) => ((ops[j]?).bind (·.dst)).toList
 | none => []
def deps (ops : Array Oper) (o : Oper) : List Nat := f0f ops o ++ o.op.operands.toList.flatMap depT
theorem e4e {x : Operand} (h : ∀ t ∈ depT x, s2.get t = s.get t) : rv s2 x = rv s x := by
 cases x with
 | tmp t => exact h t (by simp [depT])
 | _ => rfl
theorem c0j (h : ∀ t ∈ deps ops o, s2.get t = s.get t) : ∀ x ∈ o.op.operands.toList, rv s2 x = rv s x := fun x hx =>
 e4e fun t ht => h t (by simp only [deps, A0o]; right; rw [A4q]; exact ⟨x, hx, ht⟩)
theorem a4h (h : ∀ t ∈ deps ops o, s2.get t = s.get t) : a0x ops o s2 = a0x ops o s := by
 unfold a0x
 cases hg : o.guard with
 | none => rfl
 | some jw =>
   obtain ⟨j, want⟩ := jw
   simp only
   cases hdst : (ops[j]?).bind (·.dst) with
   | none => rfl
   | some d => simp only; rw [h d (by simp [deps, f0f, hg, hdst])]
theorem c4p (h : ∀ t ∈ deps ops o, s2.get t = s.get t) : a0l s2 o = a0l s o := by
 have hd := c0j h
 unfold a0l
 split
 . rename_i x args ts ho
   rw [ho] at hd
   simp only [Op.operands, Call.operands] at hd
   rw [hd x yd]
   have e : args.toList.map (rv s2) = args.toList.map (rv s) := A1f fun y hy => hd y (by simp at hy ⊢; simp [hy])
   rw [e]
 . rfl
def Calm (P : Program) (c : Cfg) (ops : Array Oper) (o : Oper) (s : Fs) (d : Nat) (v : FV) (A : Heap) : Prop :=
 o.dst = some d /\ d < c.N /\
 ∀ (X : Ctx) (s2 : Fs) (a : Act) (w : World) (K : Act -> World -> Prop) (Q : Exit -> Act -> World -> Prop), (∀ t ∈ deps ops o, s2.get t = s.get t) -> s2.ix = s.ix -> HSub s.H s2.H -> (∀ l, A l ≠ none -> s2.H l = none) -> Rel X c s2 a w ->
   (∀ u w', Rel X c ({ s2 with H := ext s2.H A }.put d v) (a.put o.dst u) w' -> K (a.put o.dst u) w') ->
   if Region.wanted o (yielded ops a.tmps) then o.wp P a w K Q \/ (o.asks P a w /\ LetsOut Q) else K (a.put o.dst undef) w
def e2r (P : Program) (c : Cfg) (ops : Array Oper) (o : Oper) (s : Fs) (d : Nat) (v : FV) (A : Heap) (kl : Loc -> Prop) : Prop :=
 o.dst = some d /\ d < c.N /\
 ∀ (X : Ctx) (s2 : Fs) (a : Act) (w : World) (K : Act -> World -> Prop) (Q : Exit -> Act -> World -> Prop), (∀ t ∈ deps ops o, s2.get t = s.get t) -> s2.ix = s.ix -> HSub s.H s2.H -> (∀ l, A l ≠ none -> ¬ kl l -> s2.H l = none) -> Rel X c s2 a w ->
   (∀ u w', Rel X c ({ s2 with H := ext s2.H A }.put d v) (a.put o.dst u) w' -> K (a.put o.dst u) w') ->
   if Region.wanted o (yielded ops a.tmps) then o.wp P a w K Q \/ (o.asks P a w /\ LetsOut Q) else K (a.put o.dst undef) w
theorem Calm.two (h : Calm P c ops o s d v A) : e2r P c ops o s d v A (fun _ => False) :=
 ⟨h.1, h.2.1, fun X s2 a w K Q h1 h2 h3 h4 => h.2.2 X s2 a w K Q h1 h2 h3 fun l hl => h4 l hl id⟩
theorem c2c (hg : a0x ops o s = some false) (hd : o.dst = some d) (hN : d < c.N) : Calm P c ops o s d (.tup []) noH := by
 refine ⟨hd, hN, fun X s2 a w K Q h1 _ _ _ hR hK => ?_⟩
 rw [if_neg (by rw [a4a hR ((a4h h1).trans hg)]; simp)]
 refine hK undef w (c0d hR ?_)
 unfold putD
 simp only [hd]
 rw [if_pos hN]; rfl
theorem e1j (hg : a0x ops o s = some true) (hc : a0l s o = none) (hd : o.dst = some d) (hN : d < c.N)
 (hs : ∀ s2 : Fs, (∀ t ∈ deps ops o, s2.get t = s.get t) -> s2.ix = s.ix -> HSub s.H s2.H -> (∀ l, A l ≠ none -> s2.H l = none) -> b1p P c o s2 = some ({ s2 with H := ext s2.H A }.put d v)) : Calm P c ops o s d v A := by
 refine ⟨hd, hN, fun X s2 a w K Q h1 h2 h3 h4 hR hK => ?_⟩
 rw [if_pos (a4a hR ((a4h h1).trans hg))]
 exact .inl (b3b (b2v (hs s2 h1 h2 h3 h4)) hR hK)
theorem e3b (us : LF) : ∀ (H A : Heap), upds (ext H A) us = ext H (upds A us) := by
 induction us with
 | nil => exact fun _ _ => rfl
 | cons u us ih =>
   intro H A
   have e : upd (ext H A) u.1 u.2 = ext H (upd A u.1 u.2) := by
    funext k
    unfold upd ext
    by_cases e : k = u.1
    . simp [e]
    . simp [e]
   show upds (upd (ext H A) u.1 u.2) us = _
   rw [e, ih]
   rfl
theorem c7q (H : Heap) (us : LF) : upds H us = ext H (upds noH us) := by
 have := e3b us H noH
 rwa [a3r] at this
theorem c7r : ∀ (us : LF) (H : Heap), ∀ u ∈ us, upds H us u.1 ≠ none
 | [], _, _, h => by cases h
 | x :: us, H, u, h => by
   rcases A0m.1 h with rfl | h
   . exact d4i us (H := upd H u.1 u.2) z1a
   . exact c7r us _ u h
theorem f1m (hv : wv P s.H nm (rv s) o = some (us, v)) (h1 : ∀ t ∈ deps ops o, s2.get t = s.get t) (h3 : HSub s.H s2.H) (h4 : ∀ l, upds noH us l ≠ none -> s2.H l = none) : wv P s2.H nm (rv s2) o = some (us, v) := by
 rw [e2t (c0j h1)]
 exact f1l h3 hv fun u hu => h4 _ (c7r us _ u hu)
theorem f6w (hg : a0x ops o s = some true) (hc : a0l s o = none) (hd : o.dst = some d) (hN : d < c.N) (hv : wv P s.H (c.nm d s.ix) (rv s) o = some (us, v)) : Calm P c ops o s d v (upds noH us) := by
 refine e1j hg hc hd hN fun s2 h1 h2 h3 h4 => ?_
 have := f1m hv h1 h3 h4
 simp only [b1p, hd, A5z, h2, this, c7q s2.H us, putD]
 rw [if_pos hN]
theorem e7s {kl : Loc -> Prop} (hg : a0x ops o s = some true) (hc : a0l s o = none) (hd : o.dst = some d) (hN : d < c.N)
 (hv : ∀ s2 : Fs, (∀ x ∈ o.op.operands.toList, rv s2 x = rv s x) -> s2.ix = s.ix -> HSub s.H s2.H -> (∀ l, upds noH us l ≠ none -> ¬ kl l -> s2.H l = none) -> wv P s2.H (c.nm d s2.ix) (rv s2) o = some (us, v)) : e2r P c ops o s d v (upds noH us) kl := by
 refine ⟨hd, hN, fun X s2 a w K Q h1 h2 h3 h4 hR hK => ?_⟩
 rw [if_pos (a4a hR ((a4h h1).trans hg))]
 refine .inl (b3b (b2v (s' := { s2 with H := ext s2.H (upds noH us) }.put d v) ?_) hR hK)
 have := hv s2 (c0j h1) h2 h3 h4
 simp only [b1p, hd, A5z, this, c7q s2.H us, putD]
 rw [if_pos hN]
theorem b8b {f : FuncId} {args : List FV} (hg : a0x ops o s = some true) (hc : a0l s o = some (f, args)) (hf : fnOk P f = true) (hd : o.dst = some d) (hN : d < c.N)
 (hfc : ∀ H2, HSub s.H H2 -> (∀ l, A l ≠ none -> H2 l = none) -> FC P c.G f args H2 v (ext H2 A)) : Calm P c ops o s d v A := by
 refine ⟨hd, hN, fun X s2 a w K Q h1 h2 h3 h4 hR hK => ?_⟩
 rw [if_pos (a4a hR ((a4h h1).trans hg))]
 refine .inl (c6z ((c4p h1).trans hc) hf (hfc s2.H h3 h4) ?_ hR hK)
 unfold putD
 simp only [hd]
 rw [if_pos hN]
end
def a2z (o : Oper) (j : Nat) : Bool := o.after.any fun e => Region.binds .any e && e.on == j
def b1q (ops : Array Oper) (n k : Nat) (o : Oper) : Bool :=
 (deps ops o).all fun t => (List.range n).all fun j => !(((ops[j]?).bind (·.dst)) == some t) || (decide (j < k) && a2z o j)
def g6r (N : Nat) (o : Oper) (k d : Nat) (v : FV) : Prop := (o.dst = some d /\ d < N) \/ (o.dst = none /\ d = N + k /\ v = .undef)
def f8n (P : Program) (c : Cfg) (ops : Array Oper) (o : Oper) (s : Fs) (k d : Nat) (v : FV) (A : Heap) (kl : Loc -> Prop) : Prop :=
 g6r c.N o k d v /\
 ∀ (X : Ctx) (s2 : Fs) (a : Act) (w : World) (K : Act -> World -> Prop) (Q : Exit -> Act -> World -> Prop), (∀ t ∈ deps ops o, s2.get t = s.get t) -> s2.ix = s.ix -> HSub s.H s2.H -> (∀ l, A l ≠ none -> ¬ kl l -> s2.H l = none) -> Rel X c s2 a w ->
   (∀ u w', Rel X c ({ s2 with H := ext s2.H A }.put d v) (a.put o.dst u) w' -> K (a.put o.dst u) w') ->
   if Region.wanted o (yielded ops a.tmps) then o.wp P a w K Q \/ (o.asks P a w /\ LetsOut Q) else K (a.put o.dst undef) w
theorem e2r.three {P : Program} {c : Cfg} {o : Oper} {kl : Loc -> Prop} (h : e2r P c ops o s d v A kl) (k : Nat) : f8n P c ops o s k d v A kl := ⟨.inl ⟨h.1, h.2.1⟩, h.2.2⟩
def b6e (b : Bool) (N : Nat) (ops : Array Oper) (o : Oper) : Bool := if b then o.dst.isSome else (deps ops o).all fun t => decide (t < N)
def awH (P : Program) (c : Cfg) (ops : Array Oper) (n : Nat) (K : Fs -> Prop) (H0 : Heap) (rs : List Loc) : Nat -> List Oper -> Fs -> List Heap -> Prop
 | k, o :: rest, s, As => if k < n then ∃ d v A Hn kl, e2r P c ops o { s with H := Hn } d v A kl /\ b1q ops n k o = true /\ (∀ l, A l ≠ none -> kl l \/ s.H l = none) /\ (∀ l, kl l -> A l ≠ none /\ l ∈ rs /\ H0 l = none /\ ∀ (j : Nat) (Aj : Heap), As[j]? = some Aj -> Aj l ≠ none -> a2z o j = true) /\
  (∀ l ob, Hn l = some ob -> H0 l = some ob \/ (kl l /\ s.H l = some ob) \/ (l ∉ rs /\ ∃ j Aj, As[j]? = some Aj /\ a2z o j = true /\ Aj l = some ob)) /\ awH P c ops n K H0 rs (k + 1) rest ({ s with H := ext s.H A }.put d v) (As ++ [A])
  else wOps P c ops (o :: rest) K s
 | _, [], s, _ => K s
def awHb (P : Program) (c : Cfg) (ops : Array Oper) (b : Bool) (n : Nat) (K : Fs -> Prop) (H0 : Heap) (rs : List Loc) : Nat -> List Oper -> Fs -> List Heap -> Prop
 | k, o :: rest, s, As => if k < n then ∃ d v A Hn kl, f8n P c ops o { s with H := Hn } k d v A kl /\ (b1q ops n k o = true /\ b6e b c.N ops o = true) /\ (∀ l, A l ≠ none -> kl l \/ s.H l = none) /\ (∀ l, kl l -> A l ≠ none /\ l ∈ rs /\ H0 l = none /\ ∀ (j : Nat) (Aj : Heap), As[j]? = some Aj -> Aj l ≠ none -> a2z o j = true) /\
  (∀ l ob, Hn l = some ob -> H0 l = some ob \/ (kl l /\ s.H l = some ob) \/ (l ∉ rs /\ ∃ j Aj, As[j]? = some Aj /\ a2z o j = true /\ Aj l = some ob)) /\ awHb P c ops b n K H0 rs (k + 1) rest ({ s with H := ext s.H A }.put d v) (As ++ [A])
  else wOps P c ops (o :: rest) K s
 | _, [], s, _ => K s
theorem awH.b {P : Program} {c : Cfg} {ops : Array Oper} {n : Nat} {K : Fs -> Prop} {H0 : Heap} {rs : List Loc} : ∀ (l : List Oper) (k : Nat) (s : Fs) (As : List Heap), awH P c ops n K H0 rs k l s As -> awHb P c ops true n K H0 rs k l s As
 | [], _, _, _, h => h
 | o :: rest, k, s, As, h => by
   by_cases hk : k < n
   . simp only [awH, hk, if_true] at h
     simp only [awHb, hk, if_true]
     obtain ⟨d, v, A, Hn, kl, h1, h2, h3, h4, h5, h6⟩ := h
     exact ⟨d, v, A, Hn, kl, h1.three k, ⟨h2, by simp [b6e, h1.1]⟩, h3, h4, h5, awH.b rest _ _ _ h6⟩
   . simp only [awH, hk, if_false] at h
     simp only [awHb, hk, if_false]
     exact h
abbrev awH3 (P : Program) (c : Cfg) (ops : Array Oper) (n : Nat) (K : Fs -> Prop) (H0 : Heap) (rs : List Loc) := awHb P c ops false n K H0 rs
def d5p (ops : Array Oper) (n : Nat) : Bool := Region.seqB .any ops (ops.size - n) n ((Array.range ops.size).map fun i => decide (i < n))
def g4k (ops : Array Oper) : Bool := (List.range ops.size).all fun i => match ops[i]? with
 | some o => o.after.all fun e => !Region.binds .any e || decide (e.on < i)
 | none => true
def b7x (ops : Array Oper) (n : Nat) : Bool :=
 decide (n <= ops.size) && (((n == ops.size) || (Region.sinkB .any ops n && Region.chainB .any ops n)) && (d5p ops n && (g4k ops && decide (((ops.toList.take n).filterMap (·.dst)).Nodup))))
def f1f (P : Program) (c : Cfg) (ops : Array Oper) (K : Fs -> Prop) (s : Fs) : Prop := P.follows .mixedOrders = true /\ ∃ n H0 rs, b7x ops n = true /\ HSub H0 s.H /\ awH P c ops n K H0 rs 0 ops.toList s []
structure Trace where
 sA : Nat -> Fs
 dA : Nat -> Nat
 vA : Nat -> FV
 AA : Nat -> Heap
structure TraceOk (P : Program) (c : Cfg) (ops : Array Oper) (b : Bool) (n : Nat) (H0 : Heap) (rs : List Loc) (k : Nat) (T : Trace) : Prop where
 step : ∀ i, k <= i -> i < n -> ∃ o Hn kl, ops[i]? = some o /\ f8n P c ops o { T.sA i with H := Hn } i (T.dA i) (T.vA i) (T.AA i) kl /\ (b1q ops n i o = true /\ b6e b c.N ops o = true) /\ (∀ l, T.AA i l ≠ none -> kl l \/ (T.sA i).H l = none) /\ (∀ l, kl l -> T.AA i l ≠ none /\ l ∈ rs /\ H0 l = none /\ ∀ j, j < i -> T.AA j l ≠ none -> a2z o j = true) /\
  (∀ l ob, Hn l = some ob -> H0 l = some ob \/ (kl l /\ (T.sA i).H l = some ob) \/ (l ∉ rs /\ ∃ j, j < i /\ a2z o j = true /\ T.AA j l = some ob)) /\ T.sA (i + 1) = { T.sA i with H := ext (T.sA i).H (T.AA i) }.put (T.dA i) (T.vA i)
theorem b8h {P : Program} {c : Cfg} {ops : Array Oper} {b : Bool} {n : Nat} {K : Fs -> Prop} {H0 : Heap} {rs : List Loc} (L : List Oper) (hn : n <= L.length) (hL : ∀ i, i < n -> L[i]? = ops[i]?) : ∀ (m k : Nat) (l : List Oper) (s : Fs) (As : List Heap), n - k = m -> k <= n -> As.length = k -> l = L.drop k -> awHb P c ops b n K H0 rs k l s As ->
 ∃ T : Trace, T.sA k = s /\ (∀ j A, As[j]? = some A -> T.AA j = A) /\ TraceOk P c ops b n H0 rs k T /\ ∃ As, awHb P c ops b n K H0 rs n (L.drop n) (T.sA n) As
 | 0, k, l, s, As, hm, hk, hA, hl, h => by
   have : k = n := by omega
   subst this
   refine ⟨⟨fun _ => s, fun _ => 0, fun _ => .undef, fun j => (As[j]?).getD noH⟩, rfl, fun j A hj => by simp [hj], ⟨fun i hi hi' => by omega⟩, ?_⟩
   subst hl
   exact ⟨As, h⟩
 | m + 1, k, l, s, As, hm, hk, hA, hl, h => by
   have hkn : k < n := by omega
   have hks : k < L.length := by omega
   have hLk := hL k hkn
   rw [A5n hks] at hLk
   have hd : L.drop k = L[k] :: L.drop (k + 1) := A1r hks
   rw [hl, hd] at h
   simp only [awHb, hkn, if_true] at h
   obtain ⟨d, v, A, Hn, kl, hq, hdep, hfr, hkl, hneed, h⟩ := h
   obtain ⟨T, h1, hAs, h2, h3⟩ := b8h L hn hL m (k + 1) _ _ (As ++ [A]) ya hkn (by simp [hA]) rfl h
   have hAk : T.AA k = A := hAs k A (by rw [A0k ya]; simp [hA])
   refine ⟨⟨fun i => if i = k then s else T.sA i, fun i => if i = k then d else T.dA i, fun i => if i = k then v else T.vA i, T.AA⟩, by simp, fun j B hj => hAs j B (by rw [A0f (by rw [A0q] at hj; exact hj.1)]; exact hj), ⟨fun i hi hi' => ?_⟩, ?_⟩
   . by_cases e : i = k
     . subst e
       refine ⟨L[i], Hn, kl, hLk.symm, ?_, hdep, ?_, fun l hl => ?_, fun l ob hl => ?_, ?_⟩
       . simpa [hAk] using hq
       . simpa [hAk] using hfr
       . obtain ⟨g1, g0, g2, g3⟩ := hkl l hl
         refine ⟨by rw [hAk]; exact g1, g0, g2, fun j hj hne => ?_⟩
         have hjA : j < As.length := by omega
         rw [hAs j As[j] (by rw [A0f hjA, A5n hjA])] at hne
         exact g3 j _ (A5n hjA) hne
       . rcases hneed l ob hl with g | ⟨g, g'⟩ | ⟨g0, j, Aj, g1, g2, g3⟩
         . exact .inl g
         . exact .inr (.inl ⟨g, by simpa using g'⟩)
         . have hji : j < i := by have := (A0q.1 g1).1; omega
           exact .inr (.inr ⟨g0, j, hji, g2, by rw [hAs j Aj (by rw [A0f ya]; exact g1)]; exact g3⟩)
       . have : i + 1 ≠ i := by omega
         simp only [this, if_false, if_true, hAk]
         exact h1
     . have e2 : i + 1 ≠ k := by omega
       simp only [e, e2, if_false]
       exact h2.step i ya hi'
   . have : n ≠ k := by omega
     simp only [this, if_false]
     exact h3
section
variable {P : Program} {X : Ctx} {c : Cfg} {ops : Array Oper} {b : Bool} {n : Nat} {T : Trace}
theorem Rel.same {s' : Fs} (h : Rel X c s a w) (hg : ∀ t, s'.get t = s.get t) (hH : s'.H = s.H) (hvl : s'.vars.length = s.vars.length) : Rel X c s' a w := by
 obtain ⟨hN, F, m, h1, h2, hR⟩ := h
 exact ⟨hN, F, m, h1, h2, { hR with
  vsz := by rw [hvl]; exact hR.vsz
  val := fun t => by rw [hg t, hH]; exact hR.val t
  heap := by rw [hH]; exact hR.heap
  own := by rw [hH]; exact hR.own
  ext := by rw [hH]; exact hR.ext }⟩
theorem TraceOk.gets (h : TraceOk P c ops b n H0 rs 0 T) (hinj : ∀ i j, i < n -> j < n -> T.dA i = T.dA j -> i = j) : ∀ i, i <= n -> (∀ j, j < i -> (T.sA i).get (T.dA j) = T.vA j) /\ (∀ t, (∀ j, j < i -> T.dA j ≠ t) -> (T.sA i).get t = (T.sA 0).get t) /\
 (T.sA i).ix = (T.sA 0).ix /\ (T.sA i).vars.length = (T.sA 0).vars.length /\ (∀ j, j < i -> ∀ l ob, T.AA j l = some ob -> (∀ j', j < j' -> j' < i -> T.AA j' l = none) -> (T.sA i).H l = some ob) /\ (∀ l, (∀ j, j < i -> T.AA j l = none) -> (T.sA i).H l = (T.sA 0).H l) := by
 intro i
 induction i with
 | zero => exact fun _ => ⟨fun j hj => by omega, fun _ _ => rfl, rfl, rfl, fun j hj => by omega, fun _ _ => rfl⟩
 | succ i ih =>
   intro hi
   obtain ⟨h1, h2, h3, h4, h5, h6⟩ := ih ya
   obtain ⟨o, Hn, kl, _, _, _, hfr, hkl, _, e⟩ := h.step i (A2a _) ya
   rw [e]
   refine ⟨fun j hj => ?_, fun t ht => ?_, by rw [f0b]; exact h3, by rw [b4y]; exact h4, fun j hj l ob hl hno => ?_, fun l hl => ?_⟩
   . rw [b3o]
     by_cases ej : j = i
     . subst ej; simp
     . rw [if_neg fun e' => ej (hinj j i ya ya e')]
       exact h1 j ya
   . rw [b3o, if_neg fun e' => ht i ya e'.symm]
     exact h2 t fun j hj => ht j ya
   . rw [c2p]
     by_cases ej : j = i
     . subst ej; simp [ext, hl]
     . have hH := h5 j ya l ob hl fun j' h1' h2' => hno j' h1' ya
       simp only [ext, hno i ya ya]
       exact hH
   . rw [c2p]
     simp only [ext, hl i ya]
     exact h6 l fun j hj => hl j ya
theorem b0l (f : Nat -> Prop) : ∀ i, (∀ j, j < i -> ¬ f j) \/ ∃ j, j < i /\ f j /\ ∀ j', j < j' -> j' < i -> ¬ f j'
 | 0 => .inl fun j hj => by omega
 | i + 1 => by
   by_cases hi : f i
   . exact .inr ⟨i, by omega, hi, fun j' h1 h2 => by omega⟩
   . rcases b0l f i with h | ⟨j, h1, h2, h3⟩
     . refine .inl fun j hj => ?_
       by_cases e : j = i
       . subst e; exact hi
       . exact h j ya
     . refine .inr ⟨j, by omega, h2, fun j' h1' h2' => ?_⟩
       by_cases e : j' = i
       . subst e; exact hi
       . exact h3 j' h1' ya
theorem TraceOk.touched (h : TraceOk P c ops b n H0 rs 0 T) (hinj : ∀ i j, i < n -> j < n -> T.dA i = T.dA j -> i = j) {i j : Nat} (hi : i <= n) (hj : j < i) (hl : T.AA j l ≠ none) : (T.sA i).H l ≠ none := by
 obtain ⟨_, _, _, _, h5, _⟩ := h.gets hinj i hi
 rcases b0l (fun j => T.AA j l ≠ none) i with h' | ⟨j', h1, h2, h3⟩
 . exact absurd hl (h' j hj)
 . obtain ⟨ob, hob⟩ := A0x.1 h2
   rw [h5 j' h1 l ob hob fun j'' q1 q2 => by
    cases hx : T.AA j'' l with
    | none => rfl
    | some o => exact absurd z2c (h3 j'' q1 q2)]
   simp
theorem TraceOk.again (h : TraceOk P c ops b n H0 rs 0 T) (hinj : ∀ i j, i < n -> j < n -> T.dA i = T.dA j -> i = j) {i j : Nat} (hi : i < n) (hj : j < i) (hl : T.AA j l ≠ none) (hl' : T.AA i l ≠ none) {o : Oper} (ho : ops[i]? = some o) : a2z o j = true /\ l ∈ rs := by
 obtain ⟨o', Hn, kl, ho', _, _, hfr, hkl, _, _⟩ := h.step i (A2a _) hi
 have e : o' = o := A5o (ho'.symm.trans ho)
 subst e
 rcases hfr l hl' with hk | hno
 . obtain ⟨_, g0, _, g3⟩ := hkl l hk
   exact ⟨g3 j hj hl, g0⟩
 . exact absurd hno (h.touched hinj (A2e hi) hj hl)
theorem TraceOk.out0 (h : TraceOk P c ops b n H0 rs 0 T) (hsub : HSub H0 (T.sA 0).H) (hinj : ∀ i j, i < n -> j < n -> T.dA i = T.dA j -> i = j) : ∀ (d i : Nat), i = d -> i < n -> ∀ l, T.AA i l ≠ none -> H0 l = none := by
 intro d
 induction d using Nat.strongRecOn with
 | _ d ih =>
   intro i hd hi l hl
   obtain ⟨_, _, _, _, _, h6⟩ := h.gets hinj i (A2e hi)
   obtain ⟨o', Hn, kl, _, _, _, hfr, hkl, _, _⟩ := h.step i (A2a _) hi
   rcases hfr l hl with hk | hno
   . exact (hkl l hk).2.2.1
   . by_cases hx : ∃ j, j < i /\ T.AA j l ≠ none
     . obtain ⟨j, hj, hjl⟩ := hx
       exact ih j ya j rfl ya l hjl
     . rw [h6 l fun j hj => by
        cases hq : T.AA j l with
        | none => rfl
        | some o => exact absurd ⟨j, hj, by rw [hq]; simp⟩ hx] at hno
       cases hx : H0 l with
       | none => rfl
       | some o' => have := hsub l o' hx; rw [hno] at this; cases this
structure Agree (n : Nat) (T : Trace) (listed : Array Bool) (s : Fs) : Prop where
 inS : ∀ j, j < n -> listed.getD j false = true -> s.get (T.dA j) = T.vA j
 out : ∀ t, (∀ j, j < n -> listed.getD j false = true -> T.dA j ≠ t) -> s.get t = (T.sA 0).get t
 ix : s.ix = (T.sA 0).ix
 vl : s.vars.length = (T.sA 0).vars.length
 hA : ∀ j, j < n -> listed.getD j false = true -> ∀ l ob, T.AA j l = some ob -> (∀ j', j < j' -> j' < n -> listed.getD j' false = true -> T.AA j' l = none) -> s.H l = some ob
 hO : ∀ l, (∀ j, j < n -> listed.getD j false = true -> T.AA j l = none) -> s.H l = (T.sA 0).H l
theorem e7o (hT : TraceOk P c ops b n H0 rs 0 T) (hsub : HSub H0 (T.sA 0).H) (hinj : ∀ i j, i < n -> j < n -> T.dA i = T.dA j -> i = j) (hn : n <= ops.size) (hsc : n = ops.size \/ (Region.sinkB .any ops n = true /\ Region.chainB .any ops n = true))
 (hseq : d5p ops n = true) (hback : g4k ops = true) (htail : ∀ a w, Rel X c (T.sA n) a w -> wpList P ops Q (ops.toList.drop n) a w) :
 ∀ (m : Nat) (listed : Array Bool) (s : Fs) (a : Act) (w : World), ((List.range n).filter fun i => !listed.getD i true).length = m -> HeadInv .any ops n listed -> Agree n T listed s -> Rel X c s a w ->
   wpAny P .any ops Q (m + (ops.size - n)) listed a w := by
 intro m
 induction m with
 | zero =>
   intro listed s a w hm inv hag hR
   have hall : ∀ i, i < n -> listed.getD i true = true := fun i hi => by
    have := A5u hm
    rw [A4w] at this
    simpa using this i (A2k.2 hi)
   have hlist : listed = (Array.range ops.size).map fun i => decide (i < n) := by
    apply Array.ext
    . simp [inv.size]
    . intro i h1 h2
      have hio : i < ops.size := by rw [<- inv.size]; exact h1
      simp only [Array.getElem_map, Array.getElem_range]
      by_cases hin : i < n
      . have := hall i hin
        simp [Array.getD, h1] at this
        simp [hin, this]
      . have := inv.tail i ya hio
        simp [Array.getD, h1] at this
        simp [hin, this]
   have hR' : Rel X c (T.sA n) a w := by
    obtain ⟨g1, g2, g3, g4, g5, g6⟩ := hT.gets hinj n (A5s _)
    have hf : ∀ j, j < n -> listed.getD j false = true := fun j hj => by
     have := hall j hj
     have hjl : j < listed.size := by rw [inv.size]; omega
     simp [Array.getD, hjl] at this ⊢; exact this
    refine hR.same (fun t => ?_) ?_ (g4.trans hag.vl.symm)
    . by_cases ht : ∃ j, j < n /\ T.dA j = t
      . obtain ⟨j, hj, rfl⟩ := ht
        rw [g1 j hj, hag.inS j hj (hf j hj)]
      . have ht' : ∀ j, j < n -> T.dA j ≠ t := fun j hj e => ht ⟨j, hj, e⟩
        rw [g2 t ht', hag.out t fun j hj _ => ht' j hj]
    . funext l
      have nn : ∀ j, ¬ T.AA j l ≠ none -> T.AA j l = none := fun j h => by
       cases hx : T.AA j l with
       | none => rfl
       | some o' => exact absurd z2c h
      rcases b0l (fun j => T.AA j l ≠ none) n with hl | ⟨j, hj, hne, hlast⟩
      . rw [g6 l fun j hj => nn j (hl j hj), hag.hO l fun j hj _ => nn j (hl j hj)]
      . obtain ⟨ob, hob⟩ := A0x.1 hne
        rw [g5 j hj l ob hob fun j' q1 q2 => nn j' (hlast j' q1 q2), hag.hA j hj (hf j hj) l ob hob fun j' q1 q2 _ => nn j' (hlast j' q1 q2)]
   have hdl : (ops.toList.drop n).length = ops.size - n := by simp
   have := wpAny_of_seq (P := P) (md := .any) (Q' := Q) (ops.toList.drop n) n listed a w (fun j => by simp [A2c]) (by rw [hdl, hlist]; exact hseq) (htail a w hR')
   rw [hdl] at this
   simpa using this
 | succ m ih =>
   intro listed s a w hm inv hag hR
   have hex : ∃ i, i < n /\ listed.getD i true = false := by
    cases hl : (List.range n).filter fun i => !listed.getD i true with
    | nil => rw [hl] at hm; simp at hm
    | cons x xs =>
      have : x ∈ (List.range n).filter fun i => !listed.getD i true := by rw [hl]; simp
      rw [A4n, A2k] at this
      exact ⟨x, this.1, by simpa using this.2⟩
   rw [show m + 1 + (ops.size - n) = (m + (ops.size - n)) + 1 by omega]
   refine ⟨fun hnil => ?_, fun i hi => ?_⟩
   . exfalso
     have least : ∀ k i, i <= k -> i < n -> listed.getD i true = false -> False := by
      intro k
      induction k using Nat.strongRecOn with
      | _ k ihk =>
        intro i hik hin hun
        have hio : i < ops.size := by omega
        have hoi : ops[i]? = some ops[i] := A5k hio
        have hnr : i ∉ Region.ready .any ops listed := by rw [hnil]; simp
        rw [mem_ready] at hnr
        have : ∃ e ∈ (ops[i]).after, Region.binds .any e = true /\ listed.getD e.on false = false := by
         by_cases hh : ∃ e ∈ (ops[i]).after, Region.binds .any e = true /\ listed.getD e.on false = false
         . exact hh
         . exfalso
           refine hnr ⟨hun, _, hoi, fun e he hb => ?_⟩
           by_cases h' : listed.getD e.on false = true
           . exact h'
           . exact absurd ⟨e, he, hb, by simpa using h'⟩ hh
        obtain ⟨e, he, hb, hl⟩ := this
        have hbk := List.all_eq_true.1 hback i (A2k.2 hio)
        simp only [hoi] at hbk
        have hlt := (Array.all_eq_true'.1 hbk) e he
        simp only [hb, Bool.not_true, Bool.false_or, A5w] at hlt
        exact ihk e.on ya e.on (A5s _) ya (getD_in (by rw [inv.size]; omega) hl)
     obtain ⟨i, hi, hun⟩ := hex
     exact least i i (A5s _) hi hun
   . have hin : i < n := by
      rcases A0r i n with h | h
      . exact h
      . obtain ⟨j, hj, hun⟩ := hex
        rcases hsc with e | ⟨hs, hc⟩
        . obtain ⟨_, oi, hoi, _⟩ := mem_ready.1 hi
          have := (A5d.1 hoi).1
          omega
        . by_cases e : n = ops.size
          . obtain ⟨_, oi, hoi, _⟩ := mem_ready.1 hi
            have := (A5d.1 hoi).1
            omega
          . exact absurd hi (tail_waits hs hc ya inv _ j rfl hj hun i h)
     obtain ⟨hun, oi, hoi, hall⟩ := mem_ready.1 hi
     obtain ⟨o, Hn, kl, ho, hq, hdep, hfr, hkl, hneed, hst⟩ := hT.step i (A2a _) hin
     obtain rfl : o = oi := A5o (ho.symm.trans hoi)
     obtain ⟨g1, g2, g3, g4, g5, g6⟩ := hT.gets hinj i (A2e hin)
     have hdst : ∀ j, j < n -> T.dA j ∈ deps ops o -> (ops[j]?).bind (·.dst) = some (T.dA j) := fun j hj hlt => by
      obtain ⟨o', _, _, ho', hq', hd', _⟩ := hT.step j (A2a _) hj
      rw [ho', A2j]
      rcases hq'.1 with h | h
      . exact h.1
      . exfalso
        cases b with
        | true => have := hd'.2; simp [b6e, h.1] at this
        | false =>
          have := hdep.2
          simp only [b6e, A4r, if_false] at this
          have := List.all_eq_true.1 this _ hlt
          simp only [A5w] at this
          omega
     have hunf : listed.getD i false = false := getD_both hun
     have hwait : ∀ j, a2z o j = true -> listed.getD j false = true := fun j hj => by
      obtain ⟨e, he, hb⟩ := Array.any_eq_true'.1 hj
      simp only [A5t, beq_iff_eq] at hb
      have := hall e he hb.1
      rw [hb.2] at this; exact this
     have hij : ∀ j, j < n -> listed.getD j false = true -> j ≠ i := fun j _ hl e => by rw [e] at hl; rw [hl] at hunf; cases hunf
     have hops : ∀ j, j < n -> ∃ o', ops[j]? = some o' := fun j hj => ⟨ops[j]'ya, A5k _⟩
     have later : ∀ l j, T.AA i l ≠ none -> j < n -> listed.getD j false = true -> T.AA j l ≠ none -> j < i := fun l j h1 hj hlj h2 => by
      rcases A3e j i with h | h | h
      . exact h
      . exact absurd h (hij j hj hlj)
      . exfalso
        obtain ⟨oj, hoj⟩ := hops j hj
        have hw := (hT.again hinj hj h h1 h2 hoj).1
        obtain ⟨e, he, hb⟩ := Array.any_eq_true'.1 hw
        simp only [A5t, beq_iff_eq] at hb
        have := inv.closed j oj hoj hlj e he hb.1
        rw [hb.2, hunf] at this; cases this
     have sameH : ∀ l, T.AA i l ≠ none -> (∀ j, j < i -> T.AA j l ≠ none -> listed.getD j false = true) -> s.H l = (T.sA i).H l := fun l h1 h2 => by
      have nn : ∀ j, ¬ T.AA j l ≠ none -> T.AA j l = none := fun j h => by
       cases hx : T.AA j l with
       | none => rfl
       | some o' => exact absurd z2c h
      rcases b0l (fun j => T.AA j l ≠ none) i with hl | ⟨j, hj, hne, hlast⟩
      . rw [g6 l fun j hj => nn j (hl j hj)]
        refine hag.hO l fun j hj hlj => nn j fun hne => ?_
        exact hl j (later l j h1 hj hlj hne) hne
      . obtain ⟨ob, hob⟩ := A0x.1 hne
        rw [g5 j hj l ob hob fun j' q1 q2 => nn j' (hlast j' q1 q2)]
        exact hag.hA j ya (h2 j hj hne) l ob hob fun j' q1 q2 q3 => nn j' fun hne' => hlast j' q1 (later l j' h1 q2 q3 hne') hne'
     unfold wpOp
     simp only [ho]
     refine hq.2 X s a w _ Q (fun t ht => ?_) (hag.ix.trans g3.symm) (fun l ob hl => ?_) (fun l hl hnk => ?_) hR fun u w' hR' => ih _ ({ s with H := ext s.H (T.AA i) }.put (T.dA i) (T.vA i)) _ w' ?_ (inv.set hi hin) ?_ hR'
     . show s.get t = (T.sA i).get t
       by_cases hh : ∃ j, j < n /\ T.dA j = t
       . obtain ⟨j, hj, rfl⟩ := hh
         have h1 := List.all_eq_true.1 hdep.1 _ ht
         have h2 := List.all_eq_true.1 h1 j (A2k.2 hj)
         rw [hdst j hj ht] at h2
         simp only [beq_self_eq_true, Bool.not_true, Bool.false_or, A5t, A5w] at h2
         rw [hag.inS j hj (hwait j h2.2), g1 j h2.1]
       . have hh' : ∀ j, j < n -> T.dA j ≠ t := fun j hj e => hh ⟨j, hj, e⟩
         rw [hag.out t fun j hj _ => hh' j hj, g2 t fun j hj => hh' j ya]
     . rcases hneed l ob hl with h0 | ⟨hk, h0⟩ | ⟨hrs, j, hji, hw, hA⟩
       . rw [hag.hO l fun j hj _ => ?_]
         . exact hsub l ob h0
         . cases hx : T.AA j l with
           | none => rfl
           | some o' => have := hT.out0 hsub hinj j j rfl hj l z2c; rw [h0] at this; cases this
       . obtain ⟨q1, q0, _, q3⟩ := hkl l hk
         exact (sameH l q1 fun j hj hne => hwait j (q3 j hj hne)).trans h0
       . refine hag.hA j ya (hwait j hw) l ob hA fun j' h1' h2' _ => ?_
         cases hx : T.AA j' l with
         | none => rfl
         | some o' =>
           obtain ⟨oj', hoj'⟩ := hops j' h2'
           exact absurd (hT.again hinj h2' h1' (by rw [hA]; simp) z2c hoj').2 hrs
     . have hno := (hfr l hl).resolve_left hnk
       exact (sameH l hl fun j hj hne => absurd hno (hT.touched hinj (A2e hin) hj hne)).trans hno
     . have hperm : ((List.range n).filter fun j => !listed.getD j true).length = ((List.range n).filter fun j => !(listed.setIfInBounds i true).getD j true).length + 1 := by
        have key : ∀ (l : List Nat), l.Nodup -> i ∈ l -> (l.filter fun j => !listed.getD j true).length = (l.filter fun j => !(listed.setIfInBounds i true).getD j true).length + 1 := by
         intro l
         induction l with
         | nil => intro _ h; cases h
         | cons x l ihl =>
           intro hnd hmem
           rw [List.nodup_cons] at hnd
           rw [List.filter_cons, List.filter_cons]
           by_cases hx : x = i
           . subst hx
             have e1 : (listed.setIfInBounds x true).getD x true = true := by
              rcases A0r x listed.size with h | h <;> simp [Array.getD, h]
             simp only [hun, e1, Bool.not_false, Bool.not_true, if_true, A1a]
             have : (l.filter fun j => !listed.getD j true) = l.filter fun j => !(listed.setIfInBounds x true).getD j true := by
              apply List.filter_congr
              intro j hj
              have hne : x ≠ j := fun e => hnd.1 (e ▸ hj)
              rw [getD_set_ne true hne]
             rw [this]
             simp
           . have hmem' : i ∈ l := by
              rcases A0m.1 hmem with h | h
              . exact absurd h.symm hx
              . exact h
             rw [getD_set_ne true (A4f hx)]
             have := ihl hnd.2 hmem'
             split
             . simp only [A1a]; omega
             . exact this
        exact key _ List.nodup_range (A2k.2 hin)
       omega
     . have hii : (listed.setIfInBounds i true).getD i false = true := by
        have hil : i < listed.size := by rw [inv.size]; omega
        simp [Array.getD, hil]
       refine ⟨fun j hj hl => ?_, fun t ht => ?_, by rw [f0b]; exact hag.ix, by rw [b4y]; exact hag.vl, fun j hj hl l ob hA hno => ?_, fun l hA => ?_⟩
       . rw [b3o]
         by_cases ej : j = i
         . subst ej; simp
         . rw [if_neg fun e => ej (hinj j i hj hin e)]
           rw [getD_set_ne false (A4f ej)] at hl
           exact hag.inS j hj hl
       . rw [b3o, if_neg fun e => ht i hin hii e.symm]
         exact hag.out t fun j hj hl => ht j hj (getD_set_true hl)
       . rw [c2p]
         by_cases ej : j = i
         . subst ej; simp [ext, hA]
         . rw [getD_set_ne false (A4f ej)] at hl
           have hi0 : T.AA i l = none := by
            cases hx : T.AA i l with
            | none => rfl
            | some o' =>
              have h1 := later l j z2c hj hl (by rw [hA]; simp)
              have := hno i h1 hin hii
              rw [hx] at this; cases this
           simp only [ext, hi0]
           exact hag.hA j hj hl l ob hA fun j' q1 q2 q3 => hno j' q1 q2 (getD_set_true q3)
       . rw [c2p]
         simp only [ext, hA i hin hii]
         exact hag.hO l fun j hj hl => hA j hj (getD_set_true hl)
theorem c9h {α β : Type} {f : α -> Option β} : ∀ {l : List α}, (l.filterMap f).Nodup -> ∀ (i j : Nat) (d : β) (x y : α), l[i]? = some x -> l[j]? = some y -> f x = some d -> f y = some d -> i = j
 | [], _, i, j, d, x, y, h, _, _, _ => by simp at h
 | a :: l, hn, i, j, d, x, y, hx, hy, fx, fy => by
   have hd : ∀ (k : Nat) (z : α), l[k]? = some z -> f z = some d -> f a = some d -> False := fun k z hz fz fa => by
    rw [List.filterMap_cons_some fa, List.nodup_cons] at hn
    exact hn.1 (List.mem_filterMap.2 ⟨z, A1b hz, fz⟩)
   have hn' : (l.filterMap f).Nodup := by
    cases fa : f a with
    | none => rwa [List.filterMap_cons_none fa] at hn
    | some b => rw [List.filterMap_cons_some fa, List.nodup_cons] at hn; exact hn.2
   cases i with
   | zero =>
     cases j with
     | zero => rfl
     | succ j =>
       simp at hx hy
       subst hx
       exact (hd j y hy fy fx).elim
   | succ i =>
     cases j with
     | zero =>
       simp at hx hy
       subst hy
       exact (hd i x hx fx fy).elim
     | succ j =>
       simp at hx hy
       rw [c9h hn' i j d x y hx hy fx fy]
theorem d4j (hT : TraceOk P c ops b n H0 rs 0 T) (hn : n <= ops.size) (hnd : ((ops.toList.take n).filterMap (·.dst)).Nodup) : ∀ i j, i < n -> j < n -> T.dA i = T.dA j -> i = j := by
 intro i j hi hj e
 obtain ⟨o1, _, _, h1, ⟨q1, _⟩, _⟩ := hT.step i (A2a _) hi
 obtain ⟨o2, _, _, h2, ⟨q2, _⟩, _⟩ := hT.step j (A2a _) hj
 have g1 : (ops.toList.take n)[i]? = some o1 := by rw [List.getElem?_take_of_lt hi, A2m]; exact h1
 have g2 : (ops.toList.take n)[j]? = some o2 := by rw [List.getElem?_take_of_lt hj, A2m]; exact h2
 rcases q1 with q1 | q1 <;> rcases q2 with q2 | q2
 . exact c9h hnd i j (T.dA i) o1 o2 g1 g2 q1.1 (by rw [e]; exact q2.1)
 . omega
 . omega
 . omega
theorem e0s (hm : P.follows .mixedOrders = true) (hB : b7x ops n = true) (hsub : HSub H0 s.H) (hT0 : T.sA 0 = s) (hT : TraceOk P c ops b n H0 rs 0 T)
 (htail : ∀ a w, Rel X c (T.sA n) a w -> wpList P ops Q (ops.toList.drop n) a w) (h : Rel X c s a w) : (Code.region id ops true).wp P Q a w := by
 have hdrew : Rel X c s a { w with drawn := w.drawn + 1 } := by
  obtain ⟨hN, F, m, h1, h2, hR⟩ := h
  exact ⟨hN, F, m, h1, h2, hR.world (A5s _) (fun _ _ => rfl) rfl rfl rfl⟩
 refine wp_region_any hm ?_
 simp only [b7x, A5t, A2v, beq_iff_eq, A5w] at hB
 obtain ⟨hn, hsc, hsq, hbk, hnd⟩ := hB
 have inv0 : HeadInv .any ops n (Array.replicate ops.size false) :=
  ⟨by simp, fun j oj _ hl => z39, fun t _ ht => getD_in (by simpa using ht) (getD_replicate_false _ _)⟩
 have hag : Agree n T (Array.replicate ops.size false) s := ⟨fun j _ hl => z39, fun t _ => by rw [hT0], by rw [hT0], by rw [hT0], fun j _ hl => z39, fun l _ => by rw [hT0]⟩
 have hcount : ((List.range n).filter fun i => !(Array.replicate ops.size false).getD i true).length = n := by
  rw [List.filter_eq_self.2, List.length_range]
  intro i hi
  rw [A2k] at hi
  have hio : i < ops.size := by omega
  simp [Array.getD, hio]
 have := e7o (Q := Q) hT (by rw [hT0]; exact hsub) (d4j hT hn hnd) hn hsc hsq hbk (fun a w h' => htail a w h') n _ s a _ hcount inv0 hag hdrew
 rw [show n + (ops.size - n) = ops.size by omega] at this
 exact this
theorem d1a (hB : b7x ops n = true) : n <= ops.size := by
 simp only [b7x, A5t, A5w] at hB
 exact hB.1
theorem e1w {K : Fs -> Prop} (hK : ∀ s a w, Rel X c s a w -> K s -> Q .normal a w) (h : Rel X c s a w) (hm : P.follows .mixedOrders = true) (hB : b7x ops n = true) (hsub : HSub H0 s.H) (hH : awHb P c ops b n K H0 rs 0 ops.toList s []) : (Code.region id ops true).wp P Q a w := by
 have hn := d1a hB
 obtain ⟨T, hT0, _, hT, As, ht⟩ := b8h ops.toList (by simpa using hn) (fun i _ => by simp) n 0 _ s [] ya (A2a _) rfl yd hH
 refine e0s hm hB hsub hT0 hT (fun a w h' => ?_) h
 refine b9x hK _ _ a w h' ?_
 cases hd : ops.toList.drop n with
 | nil => rw [hd] at ht; exact ht
 | cons o rest => rw [hd] at ht; simp only [awHb, Nat.lt_irrefl, if_false] at ht; exact ht
theorem e1y {K : Fs -> Prop} (hK : ∀ s a w, Rel X c s a w -> K s -> Q .normal a w) (h : Rel X c s a w) (hs : f1f P c ops K s) : (Code.region id ops true).wp P Q a w := by
 obtain ⟨hm, n, H0, rs, hB, hsub, hH⟩ := hs
 exact e1w hK h hm hB hsub (awH.b _ _ _ _ hH)
theorem d3s {tail : Fs -> Prop} (hm : P.follows .mixedOrders = true) (hB : b7x ops n = true) (hsub : HSub H0 s.H) (hH : awH P c ops n tail H0 rs 0 (ops.toList.take n) s [])
 (htail : ∀ s1 a w, tail s1 -> Rel X c s1 a w -> wpList P ops Q (ops.toList.drop n) a w) (h : Rel X c s a w) : (Code.region id ops true).wp P Q a w := by
 have hn := d1a hB
 obtain ⟨T, hT0, _, hT, As, ht⟩ := b8h (ops.toList.take n) yz (fun i hi => by rw [List.getElem?_take_of_lt hi]; simp) n 0 _ s [] ya (A2a _) rfl yd (awH.b _ _ _ _ hH)
 have hnil : (ops.toList.take n).drop n = [] := by simp
 rw [hnil] at ht
 exact e0s hm hB hsub hT0 hT (fun a w h' => htail _ a w ht h') h
end
end Go.FM
