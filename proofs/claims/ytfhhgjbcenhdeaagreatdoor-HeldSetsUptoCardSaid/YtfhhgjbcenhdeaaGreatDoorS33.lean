/- Part. -/
import Derived.Test.YtfhhgjbcenhdeaaGreatDoorS31
import Derived.Test.YtfhhgjbcenhdeaaGreatDoorS8
import Derived.Test.YtfhhgjbcenhdeaaGreatDoorRows
set_option linter.all false
set_option maxRecDepth 100000
set_option maxHeartbeats 0
namespace Go.Je
open Go Go.FM Go.Gv Go.Proofs
theorem rgI : Rd Tp 3 1 (fun n : Int => [.int .i64 n]) (fun _ n => IntKind.i64.min <= n /\ n <= IntKind.i64.max) := g0o Tryz.underlying3 yc
theorem rgS : Rd Tp 9 1 (fun s : ByteArray => [.str s]) (fun N s => s.size <= maxLen /\ s.size <= N) := g0n Tryz.underlying9 yc
theorem g7c : Rd Tp 42 5 Ins.row (fun _ _ => True) :=
 b2f Tryz.underlying42 yc (a3c rfl rgI (a3c rfl rgI (a3c rfl rgI (a3c rfl rgI (a3c rfl rgI c0n))))) (fun x => match x with | (x0, x1, x2, x3, x4, ()) => ⟨x0, x1, x2, x3, x4⟩) (by intro x; rfl) (fun _ _ _ => trivial) (by intro y; rfl)
theorem g0k : Rd Tp 33 1 (fun L : List Ins => [.list 5 (inss L)]) (fun N L => L.length <= N /\ ∀ x ∈ L, True) := b2g Tryz.underlying33 yc yb g7c
theorem rgFn : Rd Tp 35 4 FnD.row (fun N f => f.code.length <= N /\ f.name.size <= N) :=
 b2f Tryz.underlying35 yc (a3c rfl rgS (a3c rfl rgI (a3c rfl rgI (a3c rfl g0k c0n)))) (fun x => match x with | (x0, x1, x2, x3, ()) => ⟨x0, x1, x2, x3⟩) (by intro x; rfl) (fun _ _ h => ⟨h.2.2.2.1.1, h.1.2⟩) (by intro y; rfl)
theorem g7e : Rd Tp 22 1 (fun L : List FnD => [.list 4 (fns L)]) (fun N L => L.length <= N /\ ∀ x ∈ L, x.code.length <= N /\ x.name.size <= N) := b2g Tryz.underlying22 yc yb rgFn
theorem rgGb : Rd Tp 79 2 Gb.row (fun _ _ => True) :=
 b2f Tryz.underlying79 yc (a3c rfl rgS (a3c rfl rgI c0n)) (fun x => match x with | (x0, x1, ()) => ⟨x0, x1⟩) (by intro x; rfl) (fun _ _ _ => trivial) (by intro y; rfl)
theorem g7d : Rd Tp 23 1 (fun L : List Gb => [.list 2 (gbs L)]) (fun N L => L.length <= N /\ ∀ x ∈ L, True) := b2g Tryz.underlying23 yc yb rgGb
theorem g7b : Rd Tp 36 1 a0v (fun N L => L.length <= N /\ ∀ x ∈ L, IntKind.i64.min <= x /\ x <= IntKind.i64.max) := b2g Tryz.underlying36 yc yb rgI
theorem g0j : Rd Tp 24 1 (fun L : List (List Int) => [.list 1 (lays L)]) (fun N L => L.length <= N /\ ∀ x ∈ L, x.length <= N /\ ∀ y ∈ x, IntKind.i64.min <= y /\ y <= IntKind.i64.max) := b2g Tryz.underlying24 yc yb g7b
def g7m (p : Pg) : List FV := [.list 4 (fns p.fu), .list 2 (gbs p.gl), .list 1 (lays p.la), .int .i64 p.main]
structure PgN (N : Nat) (p : Pg) : Prop where
 hf : p.fu.length <= N
 hg : p.gl.length <= N
 hl : p.la.length <= N
 hb : ∀ x ∈ p.la, x.length <= N
 hfc : ∀ x ∈ p.fu, x.code.length <= N /\ x.name.size <= N
theorem PgN.up {p : Pg} {M : Nat} (h : PgN M p) (hm : M <= 2000000) : PgB p := ⟨A0a h.hf hm, A0a h.hg hm, A0a h.hl hm, fun x hx => A0a (h.hb x hx) hm, fun x hx => A0a (h.hfc x hx).1 hm⟩
theorem rgPg : Rd Tp 26 4 g7m PgN :=
 b2f Tryz.underlying26 yc (a3c rfl g7e (a3c rfl g7d (a3c rfl g0j (a3c rfl rgI c0n)))) (fun x => match x with | (x0, x1, x2, x3, ()) => ⟨x0, x1, x2, x3⟩) (by intro x; rfl) (fun _ _ h => ⟨h.1.1, h.2.1.1, h.2.2.1.1, fun x hx => (h.2.2.1.2 x hx).1, h.1.2⟩) (by intro y; rfl)
theorem Rd.int1 {P : Program} {t : TypeId} {k : IntKind} (h : Rd P t 1 (fun n : Int => [FV.int k n]) (fun _ n => k.min <= n /\ n <= k.max)) {H : Type} {enc : TypeId × Value -> H} {w : World} {spare : Nat -> Bool} {held : Bool} {n : Int} {d : DataW H} {ps : List MemPlace} (ht : DataW.Trod enc P w 0 spare held t (.int k n) d ps) : k.min <= n /\ n <= k.max := by
 obtain ⟨m, hn⟩ := ht
 obtain ⟨x, hx, hr⟩ := h.2.2 H enc w spare held m _ _ z3y _ (A5s _)
 cases hr with
 | cons _ _ _ _ h1 h2 => cases h1; exact hx
theorem g0l {w : World} {k : IntKind} {n : Int} : RFs w (fun b => b < w.heap.size) (fun _ => False) (fun _ => (0, 0)) [.int k n] [.int k n] := .cons _ _ _ _ (.int k n) .nil
mutual
theorem a8p {H : Type} : ∀ d : DataW H, bulk d = YtfhhgjbcenhdeaaGreatDoor.Rows.uptoBulk d
 | .lit (.string _) => by simp [bulk, YtfhhgjbcenhdeaaGreatDoor.Rows.uptoBulk]
 | .lit (.int ..) => by simp [bulk, YtfhhgjbcenhdeaaGreatDoor.Rows.uptoBulk]
 | .lit (.bool _) => by simp [bulk, YtfhhgjbcenhdeaaGreatDoor.Rows.uptoBulk]
 | .lit (.float ..) => by simp [bulk, YtfhhgjbcenhdeaaGreatDoor.Rows.uptoBulk]
 | .lit .nil => by simp [bulk, YtfhhgjbcenhdeaaGreatDoor.Rows.uptoBulk]
 | .nil => by simp [bulk, YtfhhgjbcenhdeaaGreatDoor.Rows.uptoBulk]
 | .ptr d => by simp [bulk, YtfhhgjbcenhdeaaGreatDoor.Rows.uptoBulk, a8p d]
 | .slice a b => by simp [bulk, YtfhhgjbcenhdeaaGreatDoor.Rows.uptoBulk, b0t a, b0t b]
 | .agg a => by simp [bulk, YtfhhgjbcenhdeaaGreatDoor.Rows.uptoBulk, b0t a]
 | .iface _ d => by simp [bulk, YtfhhgjbcenhdeaaGreatDoor.Rows.uptoBulk, a8p d]
 | .map es => by simp [bulk, YtfhhgjbcenhdeaaGreatDoor.Rows.uptoBulk, b0y es]
 | .held _ => by simp [bulk, YtfhhgjbcenhdeaaGreatDoor.Rows.uptoBulk]
theorem b0t {H : Type} : ∀ l : List (DataW H), a6n l = YtfhhgjbcenhdeaaGreatDoor.Rows.uptoBulkAll l
 | [] => by simp [a6n, YtfhhgjbcenhdeaaGreatDoor.Rows.uptoBulkAll]
 | d :: r => by simp [a6n, YtfhhgjbcenhdeaaGreatDoor.Rows.uptoBulkAll, a8p d, b0t r]
theorem b0y {H : Type} : ∀ l : List (Lit × DataW H), a6m l = YtfhhgjbcenhdeaaGreatDoor.Rows.uptoBulkEntries l
 | [] => by simp [a6m, YtfhhgjbcenhdeaaGreatDoor.Rows.uptoBulkEntries]
 | x :: r => by simp [a6m, YtfhhgjbcenhdeaaGreatDoor.Rows.uptoBulkEntries, c4s x, b0y r]
theorem c4s {H : Type} : ∀ x : Lit × DataW H, a6l x = YtfhhgjbcenhdeaaGreatDoor.Rows.uptoBulkEntry x
 | (.string _, d) => by simp [a6l, YtfhhgjbcenhdeaaGreatDoor.Rows.uptoBulkEntry, a8p d]
 | (.int .., d) => by simp [a6l, YtfhhgjbcenhdeaaGreatDoor.Rows.uptoBulkEntry, a8p d]
 | (.bool _, d) => by simp [a6l, YtfhhgjbcenhdeaaGreatDoor.Rows.uptoBulkEntry, a8p d]
 | (.float .., d) => by simp [a6l, YtfhhgjbcenhdeaaGreatDoor.Rows.uptoBulkEntry, a8p d]
 | (.nil, d) => by simp [a6l, YtfhhgjbcenhdeaaGreatDoor.Rows.uptoBulkEntry, a8p d]
end
end Go.Je
