/- Parts of the proof. -/
import Derived.Test.YtfhhgjbcenhdeaaGreatDoorF2
import Derived.Test.YtfhhgjbcenhdeaaGreatDoorF7
import Derived.WalkKit
set_option linter.unusedSimpArgs false
set_option linter.unusedVariables false
namespace Go.Je
open Go Go.RowKit Go.Proofs Go.Shelf Go.Sort
set_option maxHeartbeats 40000000
set_option maxRecDepth 100000
abbrev srtB (ss : List (List UInt8)) : List (List UInt8) := ss.mergeSort fun x y => decide (x <= y)
def toB (l : List (List UInt8)) : List ByteArray := l.map fun x => ⟨x.toArray⟩
theorem srBl (ss : List (List UInt8)) : (srtB ss).length = ss.length := List.length_mergeSort ss
theorem e2s {w : World} {g : Nat} {l : List (List UInt8)} (h : Holds encStr w g 0 l.toArray) : ∀ j, j < (toB l).length -> w.cell? ⟨g, 0 + j, none⟩ = some (.string ((toB l).getD j ByteArray.empty)) := by
 intro j hj
 have hj' : j < l.length := by simpa [toB] using hj
 rw [(h j (by simpa using hj')).1]
 have : l.toArray[j]! = l[j] := by simp [getElem!_pos, hj']
 rw [this]
 simp [toB, List.getD_eq_getElem?_getD, List.getElem?_eq_getElem hj', encStr]
theorem b4b (l : List (List UInt8)) (n : Nat) (hn : l.length = n) : Lib.containsS ((toB l).take n) ⟨#[]⟩ = decide ([] ∈ l) := by
 rw [Bool.eq_iff_iff, Lib.containsS_iff, List.take_of_length_le (by simp [toB, hn])]
 simp only [toB, List.mem_map, decide_eq_true_eq]
 constructor
 . rintro ⟨x, hx, h⟩
   have : x = [] := by simpa using congrArg (fun b : ByteArray => b.data.toList) h
   rwa [this] at hx
 . intro h; exact ⟨[], h, rfl⟩
theorem e4y {ss : List (List UInt8)} (h : [] ∈ srtB ss) : Gv.uniq ss = false := by
 have := (List.mergeSort_perm ss (fun x y => decide (x <= y))).mem_iff.mp h
 simp [Gv.uniq, this]
theorem d8i {ss : List (List UInt8)} (h : ¬ [] ∈ srtB ss) {n : Nat} (hn : ss.length = n) : decide (((Lib.compact (srtB ss)).length : Int) = (n : Int)) = Gv.uniq ss := by
 have h' : ¬ [] ∈ ss := fun e => h ((List.mergeSort_perm ss (fun x y => decide (x <= y))).mem_iff.mpr e)
 rw [<- Gv.e4z]
 simp [h', hn, Int.ofNat_inj]
def UX (w w1 : World) (g cap n : Nat) (ss : List (List UInt8)) : Prop :=
 Go.RowKit.Below w.heap.size w w1 /\ w.heap.size <= g /\ g < w1.heap.size /\ n <= cap /\ ss.length = n /\ Holds encStr w1 g 0 ss.toArray
theorem b5i (A : Option Addr) (n c : Nat) (ss : List (List UInt8)) (w : World) (hn : n <= 4611686018427387903)
 (hclone : Calls Tryz.prog 125 #[.slice A n c] w fun e w' => ∃ v', e = .returned v' /\ w'.ownsRow w.heap.size 9 1 v' n (ss.map encStr) /\ v' ≠ .slice none 0 0 /\ Go.RowKit.Below w.heap.size w w') :
 Calls Tryz.prog 77 #[.slice A n c] w fun e w' => e = .returned (.bool (Gv.uniq ss)) /\ Go.RowKit.Below w.heap.size w w' := by
 by_cases hm : [] ∈ srtB ss
 . have hu := e4y hm
   go_enter Tryz.func77, Tryz.ntmps77
   go_wp2_with (first
    | (go_at_call 125; refine hclone.mono ?_; rintro e w1 ⟨v1, rfl, hown, hnn, hbel⟩
       obtain ⟨g, cap, rfl, hbg, hgl, hncap, hcm, hlen, hH⟩ := Lib.holds_of_ownsRow hown hnn
       have hsort : Calls Tryz.prog 126 _ _ _ := Any.slices_Sort_string uL2 g 0 cap ss w1 hH hgl (by omega)
       rw [hlen] at hsort
       have X : Aside (UX w w1 g cap n ss) := ⟨hbel, hbg, hgl, hncap, hlen, hH⟩
       clear hown hbel hH hnn)
    | (go_at_call 126; refine hsort.mono ?_; rintro e w2 ⟨rfl, nn, os, rfl⟩
       have hl2 : (srtB ss).length = n := by rw [srBl]; exact X.out.2.2.2.2.1
       have hH2 : Holds encStr (grow (putRow encStr (Sort.ahead w1 nn) g 0 (srtB ss).toArray) os) g 0 (srtB ss).toArray :=
        holds_grow encStr _ os g 0 _ (by simpa [putRow, mapBlock, Sort.ahead] using X.out.2.2.1) (holds_putRow encStr _ g 0 _ _ (holds_ahead encStr w1 nn g 0 _ X.out.2.2.2.2.2) (by simp))
       have hcont : Calls Tryz.prog 127 _ _ _ := Any.slices_Contains_string uL4 g 0 n cap (toB (srtB ss)) ⟨#[]⟩ _ (by simp [toB, hl2]) (by omega) (e2s hH2)
       rw [b4b _ _ hl2, decide_eq_true hm] at hcont
       clear hH2 hsort)
    | (go_at_call 127; refine hcont.mono ?_; rintro e w3 ⟨rfl, rfl⟩))
   go_ret
   exact ⟨by rw [hu]; rfl, X.out.1.grown (grownBy_sorted _) X.out.1.size (fun j hj => by cases hj; exact X.out.2.1)⟩
 . have hu := fun (h : ss.length = n) => d8i hm h
   go_enter Tryz.func77, Tryz.ntmps77
   go_wp2_with (first
    | (go_at_call 125; refine hclone.mono ?_; rintro e w1 ⟨v1, rfl, hown, hnn, hbel⟩
       obtain ⟨g, cap, rfl, hbg, hgl, hncap, hcm, hlen, hH⟩ := Lib.holds_of_ownsRow hown hnn
       have hsort : Calls Tryz.prog 126 _ _ _ := Any.slices_Sort_string uL2 g 0 cap ss w1 hH hgl (by omega)
       rw [hlen] at hsort
       have X : Aside (UX w w1 g cap n ss) := ⟨hbel, hbg, hgl, hncap, hlen, hH⟩
       clear hown hbel hH hnn)
    | (go_at_call 126; refine hsort.mono ?_; rintro e w2 ⟨rfl, nn, os, rfl⟩
       have hl2 : (srtB ss).length = n := by rw [srBl]; exact X.out.2.2.2.2.1
       have hH2 : Holds encStr (grow (putRow encStr (Sort.ahead w1 nn) g 0 (srtB ss).toArray) os) g 0 (srtB ss).toArray :=
        holds_grow encStr _ os g 0 _ (by simpa [putRow, mapBlock, Sort.ahead] using X.out.2.2.1) (holds_putRow encStr _ g 0 _ _ (holds_ahead encStr w1 nn g 0 _ X.out.2.2.2.2.2) (by simp))
       have hcont : Calls Tryz.prog 127 _ _ _ := Any.slices_Contains_string uL4 g 0 n cap (toB (srtB ss)) ⟨#[]⟩ _ (by simp [toB, hl2]) (by omega) (e2s hH2)
       rw [b4b _ _ hl2, decide_eq_false hm] at hcont
       have hcomp : Calls Tryz.prog 128 _ _ _ := Any.slices_Compact_string uL3 g 0 cap (srtB ss) _ hH2 (by omega) (by rw [hl2]; exact X.out.2.2.2.1)
       rw [hl2] at hcomp
       clear hH2 hsort)
    | (go_at_call 127; refine hcont.mono ?_; rintro e w3 ⟨rfl, rfl⟩)
    | (go_at_call 128; refine hcomp.mono ?_; rintro e w3 ⟨rfl, q, rfl⟩))
   go_ret
   exact ⟨by rw [<- hu X.out.2.2.2.2.1]; rfl, Lib.below_putRow (X.out.1.grown (grownBy_sorted _) X.out.1.size (fun j hj => by cases hj; exact X.out.2.1)) X.out.2.1⟩
theorem c9l (c : Nat) (w : World) : Calls Tryz.prog 77 #[.slice none 0 c] w fun e w' => e = .returned (.bool true) /\ w' = w := by
 have hclone : Calls Tryz.prog 125 #[.slice none 0 c] w _ := Any.slices_Clone_string_nil uL1 0 c w
 have hsort : Calls Tryz.prog 126 #[.slice none 0 0] w _ := calls_of_every_depth fun D => AnyS.slices_Sort_string_none_in uL2 D none 0 w
 have hcont : Calls Tryz.prog 127 #[.slice none 0 0, .string ⟨#[]⟩] w _ := Any.slices_Contains_string_empty uL4 none 0 ⟨#[]⟩ w
 have hcomp : Calls Tryz.prog 128 #[.slice none 0 0] w _ := Any.slices_Compact_string_empty uL3 none 0 w
 go_enter Tryz.func77, Tryz.ntmps77
 go_wp2_with (first
  | (go_at_call 125; refine hclone.mono ?_; rintro e w' ⟨rfl, rfl⟩)
  | (go_at_call 126; refine hsort.mono ?_; rintro e w' ⟨rfl, rfl⟩)
  | (go_at_call 127; refine hcont.mono ?_; rintro e w' ⟨rfl, rfl⟩)
  | (go_at_call 128; refine hcomp.mono ?_; rintro e w' ⟨rfl, rfl⟩))
 go_ret
 exact ⟨rfl, rfl⟩
end Go.Je
