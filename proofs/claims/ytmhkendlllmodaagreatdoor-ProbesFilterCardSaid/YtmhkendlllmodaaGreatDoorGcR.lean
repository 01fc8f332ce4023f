/- One of the texts of a proof by an abstract machine over the model. -/
import Derived.Test.YtmhkendlllmodaaGreatDoorGcI
import Derived.Test.YtmhkendlllmodaaGreatDoorFmR
set_option linter.unusedSimpArgs false
set_option linter.unusedVariables false
namespace Go.Gc
open Go Go.FM Go.Proofs
theorem rdI : Rd Tryz.prog 3 1 (fun n : Int => [.int .i64 n]) (fun n => IntKind.i64.min ≤ n ∧ n ≤ IntKind.i64.max) := rd_int Tryz.underlying3 (by kernel_rfl)
theorem rdEv : Rd Tryz.prog 46 9 Ev.row (fun _ => True) :=
  rd_struct Tryz.underlying46 (by kernel_rfl) (rdf_cons rfl rdI (rdf_cons rfl rdI (rdf_cons rfl rdI (rdf_cons rfl rdI (rdf_cons rfl rdI (rdf_cons rfl rdI (rdf_cons rfl rdI (rdf_cons rfl rdI (rdf_cons rfl rdI rdf_nil))))))))) (fun x => match x with | (x0, x1, x2, x3, x4, x5, x6, x7, x8, ()) => ⟨x0, x1, x2, x3, x4, x5, x6, x7, x8⟩) (by intro x; rfl) (fun _ _ => trivial) (by intro y; rfl)
theorem rdPb : Rd Tryz.prog 42 4 Pb.row (fun _ => True) :=
  rd_struct Tryz.underlying42 (by kernel_rfl) (rdf_cons rfl rdI (rdf_cons rfl rdI (rdf_cons rfl rdI (rdf_cons rfl rdI rdf_nil)))) (fun x => match x with | (x0, x1, x2, x3, ()) => ⟨x0, x1, x2, x3⟩) (by intro x; rfl) (fun _ _ => trivial) (by intro y; rfl)
theorem rdSi : Rd Tryz.prog 33 2 sRow (fun _ => True) :=
  rd_struct Tryz.underlying33 (by kernel_rfl) (rdf_cons rfl rdI (rdf_cons rfl rdI rdf_nil)) (fun x => match x with | (x0, x1, ()) => (x0, x1)) (by intro x; rfl) (fun _ _ => trivial) (by intro y; rfl)
theorem rdEvs : Rd Tryz.prog 37 1 (fun L : List Ev => [.list 9 (evs L)]) (fun L => ∀ x ∈ L, True) := rd_slice Tryz.underlying37 (by kernel_rfl) (by decide) rdEv
theorem rdPbs : Rd Tryz.prog 35 1 (fun L : List Pb => [.list 4 (pbs L)]) (fun L => ∀ x ∈ L, True) := rd_slice Tryz.underlying35 (by kernel_rfl) (by decide) rdPb
theorem rdSis : Rd Tryz.prog 29 1 (fun L : List (Int × Int) => [.list 2 (sis L)]) (fun L => ∀ x ∈ L, True) := rd_slice Tryz.underlying29 (by kernel_rfl) (by decide) rdSi
end Go.Gc
