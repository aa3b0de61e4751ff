/- slices.Clone, Sort and Compact at []int, over a row of the call's own: what they leave, in one vocabulary. Conditions: the row's length is within the model's bounds. -/
import Derived.Test.YtehekppkicjimaaDoorSShelf
import Derived.Test.YtehekppkicjimaaDoorSQFKx0
import Derived.Sort.OwnSortedInts
namespace Go.Proofs.YtehekppkicjimaaDoor.QFK
open Go.RowKit Go.Proofs.YtehekppkicjimaaDoorW.PrintWords Go.Proofs.YtehekppkicjimaaDoorW.PrintLast Go.Proofs.YtehekppkicjimaaDoorW.PrintMore
set_option linter.unusedVariables false
open Go.Sort

theorem clone_any (v : Value) (xs : List Int) (w : World) (base : Nat) (ok : Nat → Prop) (hR : Kd.R (Kd.int .i64) 3 w base ok v xs) (hl : xs.length * 8 ≤ 140737488355328) :
    Calls Tryd.prog 27 #[v] w fun e w' => ∃ v', e = .returned v' ∧ Kd.R (Kd.int .i64) 3 w' w.heap.size (fun _ => True) v' xs ∧ Below w.heap.size w w' := by
  have ho := Kd.own_of_R hR
  rcases ho.2 with ⟨rfl, h0⟩ | ⟨g, cap, cur, rfl, hg, hh, h1, h2, h3, h4⟩
  · obtain rfl : xs = [] := by simpa [encs] using h0
    refine (Tryd.slices_Clone_int_nil 0 0 w).mono ?_
    rintro e w' ⟨rfl, rfl⟩
    exact ⟨_, rfl, Kd.R_nil _ _ _ _ _, Below.refl _ _⟩
  · rcases Nat.eq_zero_or_pos xs.length with hz | hz
    · obtain rfl : xs = [] := List.eq_nil_of_length_eq_zero hz
      refine (Tryd.slices_Clone_int_zero ⟨g, 0, none⟩ cap w).mono ?_
      rintro e w' ⟨v', rfl, hown, _, hb⟩
      exact ⟨v', rfl, Kd.R_of_own (by simpa [encs] using hown) (fun _ _ => trivial), hb⟩
    · refine (Tryd.slices_Clone_int g 0 xs.length cap xs w (Nat.le_refl _) hl (fun j hj => ?_)).mono ?_
      · have := ho.cells (g := g) rfl j (.int .i64 (xs.getD j 0)) (by simp [encs, List.getElem?_eq_getElem hj, List.getD_eq_getElem?_getD])
        simpa [add_plain] using this
      · rintro e w' ⟨v', rfl, hown, _, hb⟩
        rw [List.take_length] at hown
        exact ⟨v', rfl, Kd.R_of_own (by simpa [encs] using hown) (fun _ _ => trivial), hb⟩

theorem sort_any (v : Value) (xs : List Int) (w : World) (base : Nat) (ok : Nat → Prop) (hR : Kd.R (Kd.int .i64) 3 w base ok v xs) (hl : xs.length * 8 ≤ 140737488355328) :
    Calls Tryd.prog 28 #[v] w fun e w' => e = .returned (.tuple #[]) ∧ Kd.R (Kd.int .i64) 3 w' base ok v (xs.mergeSort fun x y => decide (x ≤ y)) ∧ w.grownBy w' v.ownBlock := by
  have ho := Kd.own_of_R hR
  rcases ho.2 with ⟨rfl, h0⟩ | ⟨g, cap, cur, rfl, hg, hh, h1, h2, h3, h4⟩
  · obtain rfl : xs = [] := by simpa [encs] using h0
    refine (Tryd.slices_Sort_int_none none 0 w).mono ?_
    rintro e w' ⟨rfl, rfl⟩
    exact ⟨rfl, by simpa using Kd.R_nil (Kd.int .i64) 3 w' base ok, grown_of_below (Below.refl _ _) _⟩
  · have hH : Holds (Value.int .i64) w g 0 xs.toArray := holds_of_blockI hh (by simpa [encs] using h4)
    refine (Tryd.slices_Sort_int g 0 cap xs w hH (blk_lt hh) (by omega)).mono ?_
    rintro e w' ⟨rfl, n, os, rfl⟩
    refine ⟨rfl, Kd.R_of_own ?_ ?_, ?_⟩
    · have := ownsRow_sortedI (w := w) (base := base) (g := g) (cap := cap) (n := n) (e := 3) (os := os) (cur := cur) (ss := xs) (ts := xs.mergeSort fun x y => decide (x ≤ y)) (by simp) hg hh h1 h2 h3
      simpa [encs] using this
    · intro k hk
      exact hR.1 k (by simpa using hk)
    · simpa [Value.ownBlock] using grownBy_sortedI (w := w) (g := g) (n := n) (os := os) (xs.mergeSort fun x y => decide (x ≤ y)).toArray

theorem compact_any (v : Value) (xs : List Int) (w : World) (base : Nat) (ok : Nat → Prop) (hR : Kd.R (Kd.int .i64) 3 w base ok v xs) (hl : xs.length * 8 ≤ 140737488355328) :
    Calls Tryd.prog 29 #[v] w fun e w' => ∃ A c, e = .returned (.slice A (Lib.compact xs).length c) ∧ w.grownBy w' v.ownBlock := by
  have ho := Kd.own_of_R hR
  rcases ho.2 with ⟨rfl, h0⟩ | ⟨g, cap, cur, rfl, hg, hh, h1, h2, h3, h4⟩
  · obtain rfl : xs = [] := by simpa [encs] using h0
    refine (Tryd.slices_Compact_int_empty none 0 w).mono ?_
    rintro e w' ⟨rfl, rfl⟩
    exact ⟨none, 0, by rfl, grown_of_below (Below.refl _ _) _⟩
  · have hH : Holds (Value.int .i64) w g 0 xs.toArray := holds_of_blockI hh (by simpa [encs] using h4)
    refine (Tryd.slices_Compact_int g 0 cap xs w hH (by omega) h1).mono ?_
    rintro e w' ⟨rfl, q, rfl⟩
    refine ⟨_, _, rfl, ?_⟩
    have := grownBy_sortedI (w := w) (g := g) (n := q) (os := #[]) (Lib.compact xs ++ List.replicate (xs.length - (Lib.compact xs).length) 0).toArray
    rw [grow_empty] at this
    simpa [Value.ownBlock] using this
end Go.Proofs.YtehekppkicjimaaDoor.QFK
