/-
  slices.Sort at []int, at a row of the call's own: out of the shelf's contract.
-/
import Derived.Test.YtiaifphidcfddaaShelfSortI
import Derived.Test.YtiaifphidcfddaaGone
import Derived.Sort.OwnSortedInts
set_option linter.unusedVariables false
set_option linter.unusedSimpArgs false
namespace Go.Proofs.Ytiaifphidcfddaa
open Go.RowKit Go.Shelf Go.Maps

theorem flatMap_i64 (xs : List Int) : xs.flatMap i64c = xs.map (Value.int .i64) := by
  induction xs with
  | nil => rfl
  | cons x r ih => simp only [List.flatMap_cons, ih, i64c, List.map_cons, List.singleton_append]

theorem sortInts : SortIntsSaid := by
  intro v xs base w ho hl
  rcases ho.2 with ⟨rfl, h0⟩ | ⟨g, cap, cur, rfl, hb, hg, hnc, hcm, hcs, ht⟩
  · have : xs = [] := List.eq_nil_of_length_eq_zero h0
    subst this
    refine (Try.slices_Sort_int_none none 0 w).mono ?_
    rintro e w' ⟨rfl, rfl⟩
    exact ⟨rfl, by simpa using ho, World.grownBy.refl _ _⟩
  · have ht' : cur.toList.take xs.length = xs.map (Value.int .i64) := by rw [← flatMap_i64, ← ht, Nat.mul_one]
    refine (Try.slices_Sort_int g 0 cap xs w (Go.holds_of_blockI hg ht') (Array.getElem?_eq_some_iff.1 hg).1 (by omega)).mono ?_
    rintro e w' ⟨rfl, n, os, rfl⟩
    have hlen : (xs.mergeSort fun x y => decide (x ≤ y)).length = xs.length := List.length_mergeSort xs
    refine ⟨rfl, ?_, Go.grownBy_sortedI _⟩
    show World.ownsRow _ base _ 1 _ _ _
    rw [flatMap_i64, hlen]
    exact Go.ownsRow_sortedI hlen hb hg hnc hcm (by rw [hcs, Nat.mul_one])
end Go.Proofs.Ytiaifphidcfddaa
