/- Parts of the proof. -/
import Derived.Test.YtfhhgjbcenhdeaaR46
import Derived.Test.YtfhhgjbcenhdeaaRows
set_option linter.unusedSimpArgs false
set_option linter.unusedVariables false
namespace Go.He
open Go Go.FM Go.Gv Go.Proofs
set_option maxRecDepth 100000
set_option maxHeartbeats 40000000
theorem rgI : Rd Try.prog 3 1 (fun n : Int => [.int .i64 n]) (fun _ n => IntKind.i64.min <= n /\ n <= IntKind.i64.max) := e9n Try.underlying3 (by kernel_rfl)
theorem rgS : Rd Try.prog 9 1 (fun s : ByteArray => [.str s]) (fun N s => s.size <= maxLen /\ s.size <= N) := e9m Try.underlying9 (by kernel_rfl)
theorem g0t : Rd Try.prog 47 5 Ins.row (fun _ _ => True) :=
 a9q Try.underlying47 (by kernel_rfl) (a4j rfl rgI (a4j rfl rgI (a4j rfl rgI (a4j rfl rgI (a4j rfl rgI b4l))))) (fun x => match x with | (x0, x1, x2, x3, x4, ()) => ⟨x0, x1, x2, x3, x4⟩) (by intro x; rfl) (fun _ _ _ => trivial) (by intro y; rfl)
theorem e9k : Rd Try.prog 43 1 (fun L : List Ins => [.list 5 (inss L)]) (fun N L => L.length <= N /\ ∀ x ∈ L, True) := b0d Try.underlying43 (by kernel_rfl) (by decide) g0t
theorem rgFn : Rd Try.prog 45 4 FnD.row (fun N f => f.code.length <= N) :=
 a9q Try.underlying45 (by kernel_rfl) (a4j rfl rgS (a4j rfl rgI (a4j rfl rgI (a4j rfl e9k b4l)))) (fun x => match x with | (x0, x1, x2, x3, ()) => ⟨x0, x1, x2, x3⟩) (by intro x; rfl) (fun _ _ h => h.2.2.2.1.1) (by intro y; rfl)
theorem g0v : Rd Try.prog 22 1 (fun L : List FnD => [.list 4 (fns L)]) (fun N L => L.length <= N /\ ∀ x ∈ L, x.code.length <= N) := b0d Try.underlying22 (by kernel_rfl) (by decide) rgFn
theorem rgGb : Rd Try.prog 55 2 Gb.row (fun _ _ => True) :=
 a9q Try.underlying55 (by kernel_rfl) (a4j rfl rgS (a4j rfl rgI b4l)) (fun x => match x with | (x0, x1, ()) => ⟨x0, x1⟩) (by intro x; rfl) (fun _ _ _ => trivial) (by intro y; rfl)
theorem g0u : Rd Try.prog 23 1 (fun L : List Gb => [.list 2 (gbs L)]) (fun N L => L.length <= N /\ ∀ x ∈ L, True) := b0d Try.underlying23 (by kernel_rfl) (by decide) rgGb
theorem g0s : Rd Try.prog 41 1 a2i (fun N L => L.length <= N /\ ∀ x ∈ L, IntKind.i64.min <= x /\ x <= IntKind.i64.max) := b0d Try.underlying41 (by kernel_rfl) (by decide) rgI
theorem d1r : Rd Try.prog 24 1 (fun L : List (List Int) => [.list 1 (lays L)]) (fun N L => L.length <= N /\ ∀ x ∈ L, x.length <= N /\ ∀ y ∈ x, IntKind.i64.min <= y /\ y <= IntKind.i64.max) := b0d Try.underlying24 (by kernel_rfl) (by decide) g0s
theorem g0r : Rd Try.prog 28 1 (fun L : List (List (List Int)) => [.list 1 (lls L)]) (fun N L => L.length <= N /\ ∀ z ∈ L, z.length <= N /\ ∀ x ∈ z, x.length <= N /\ ∀ y ∈ x, IntKind.i64.min <= y /\ y <= IntKind.i64.max) := b0d Try.underlying28 (by kernel_rfl) (by decide) d1r
theorem g0q : Rd Try.prog 50 2 a8a (fun _ _ => True) :=
 a9q Try.underlying50 (by kernel_rfl) (a4j rfl rgI (a4j rfl rgI b4l)) (fun x => match x with | (x0, x1, ()) => (x0, x1)) (by intro x; rfl) (fun _ _ _ => trivial) (by intro y; rfl)
theorem e9j : Rd Try.prog 27 1 (fun L : List (Int × Int) => [.list 2 (sits L)]) (fun N L => L.length <= N /\ ∀ x ∈ L, True) := b0d Try.underlying27 (by kernel_rfl) (by decide) g0q
def g0z (p : Pg) : List FV := [.list 4 (fns p.funcs), .list 2 (gbs p.globals), .list 1 (lays p.layouts), .int .i64 p.main]
def g0y (x : Pts) : List FV := [.list 2 (sits x.sites), .list 1 (lls x.regs), .list 1 (lays x.cells)]
structure PgN (N : Nat) (p : Pg) : Prop where
 hf : p.funcs.length <= N
 hg : p.globals.length <= N
 hl : p.layouts.length <= N
 hb : ∀ x ∈ p.layouts, x.length <= N
 hfc : ∀ x ∈ p.funcs, x.code.length <= N
theorem PgN.up {p : Pg} {M : Nat} (h : PgN M p) (hm : M <= 2000000) : PgB p := ⟨Nat.le_trans h.hf hm, Nat.le_trans h.hg hm, Nat.le_trans h.hl hm, fun x hx => Nat.le_trans (h.hb x hx) hm, fun x hx => Nat.le_trans (h.hfc x hx) hm⟩
theorem PtB.up {x : Pts} {M N : Nat} (h : PtB M x) (hm : M <= N) : PtB N x := ⟨Nat.le_trans h.s hm, Nat.le_trans h.r hm, Nat.le_trans h.c hm, fun a ha => Nat.le_trans (h.rr a ha) hm, fun a ha s hs => Nat.le_trans (h.rs a ha s hs) hm, fun s hs => Nat.le_trans (h.cs s hs) hm⟩
theorem rgPg : Rd Try.prog 26 4 g0z PgN :=
 a9q Try.underlying26 (by kernel_rfl) (a4j rfl g0v (a4j rfl g0u (a4j rfl d1r (a4j rfl rgI b4l)))) (fun x => match x with | (x0, x1, x2, x3, ()) => ⟨x0, x1, x2, x3⟩) (by intro x; rfl) (fun _ _ h => ⟨h.1.1, h.2.1.1, h.2.2.1.1, fun x hx => (h.2.2.1.2 x hx).1, h.1.2⟩) (by intro y; rfl)
theorem rgPt : Rd Try.prog 30 3 g0y (fun N x => PtB N x) :=
 a9q Try.underlying30 (by kernel_rfl) (a4j rfl e9j (a4j rfl g0r (a4j rfl d1r b4l))) (fun x => match x with | (x0, x1, x2, ()) => ⟨x0, x1, x2⟩) (by intro x; rfl) (fun _ _ h => ⟨h.1.1, h.2.1.1, h.2.2.1.1, fun a ha => (h.2.1.2 a ha).1, fun a ha s hs => ((h.2.1.2 a ha).2 s hs).1, fun s hs => (h.2.2.1.2 s hs).1⟩) (by intro y; rfl)
mutual
theorem a8s {H : Type} : ∀ d : DataW H, bulk d = Ytfhhgjbcenhdeaa.Rows.uptoBulk d
 | .lit (.string _) => by simp [bulk, Ytfhhgjbcenhdeaa.Rows.uptoBulk]
 | .lit (.int ..) => by simp [bulk, Ytfhhgjbcenhdeaa.Rows.uptoBulk]
 | .lit (.bool _) => by simp [bulk, Ytfhhgjbcenhdeaa.Rows.uptoBulk]
 | .lit (.float ..) => by simp [bulk, Ytfhhgjbcenhdeaa.Rows.uptoBulk]
 | .lit .nil => by simp [bulk, Ytfhhgjbcenhdeaa.Rows.uptoBulk]
 | .nil => by simp [bulk, Ytfhhgjbcenhdeaa.Rows.uptoBulk]
 | .ptr d => by simp [bulk, Ytfhhgjbcenhdeaa.Rows.uptoBulk, a8s d]
 | .slice a b => by simp [bulk, Ytfhhgjbcenhdeaa.Rows.uptoBulk, b2h a, b2h b]
 | .agg a => by simp [bulk, Ytfhhgjbcenhdeaa.Rows.uptoBulk, b2h a]
 | .iface _ d => by simp [bulk, Ytfhhgjbcenhdeaa.Rows.uptoBulk, a8s d]
 | .map es => by simp [bulk, Ytfhhgjbcenhdeaa.Rows.uptoBulk, b2u es]
 | .held _ => by simp [bulk, Ytfhhgjbcenhdeaa.Rows.uptoBulk]
theorem b2h {H : Type} : ∀ l : List (DataW H), a8v l = Ytfhhgjbcenhdeaa.Rows.uptoBulkAll l
 | [] => by simp [a8v, Ytfhhgjbcenhdeaa.Rows.uptoBulkAll]
 | d :: r => by simp [a8v, Ytfhhgjbcenhdeaa.Rows.uptoBulkAll, a8s d, b2h r]
theorem b2u {H : Type} : ∀ l : List (Lit × DataW H), a8u l = Ytfhhgjbcenhdeaa.Rows.uptoBulkEntries l
 | [] => by simp [a8u, Ytfhhgjbcenhdeaa.Rows.uptoBulkEntries]
 | x :: r => by simp [a8u, Ytfhhgjbcenhdeaa.Rows.uptoBulkEntries, c3b x, b2u r]
theorem c3b {H : Type} : ∀ x : Lit × DataW H, a8t x = Ytfhhgjbcenhdeaa.Rows.uptoBulkEntry x
 | (.string _, d) => by simp [a8t, Ytfhhgjbcenhdeaa.Rows.uptoBulkEntry, a8s d]
 | (.int .., d) => by simp [a8t, Ytfhhgjbcenhdeaa.Rows.uptoBulkEntry, a8s d]
 | (.bool _, d) => by simp [a8t, Ytfhhgjbcenhdeaa.Rows.uptoBulkEntry, a8s d]
 | (.float .., d) => by simp [a8t, Ytfhhgjbcenhdeaa.Rows.uptoBulkEntry, a8s d]
 | (.nil, d) => by simp [a8t, Ytfhhgjbcenhdeaa.Rows.uptoBulkEntry, a8s d]
end
end Go.He
