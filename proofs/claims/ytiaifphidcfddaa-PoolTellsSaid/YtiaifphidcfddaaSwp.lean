/-
  The stable sort of backends: what a swap's region wants of the worlds between its two stores.
-/
import Derived.Test.YtiaifphidcfddaaRot2
set_option linter.unusedVariables false
set_option linter.unusedSimpArgs false
namespace Go.Proofs.Ytiaifphidcfddaa
open Go.RowKit Go.Shelf

/-- The worlds of a swap: behind the draw; behind the store of y at j; behind the store of x at m. -/
structure SwapW (w W0 W1 W2 : World) (b j m : Nat) (x1 x2 y1 y2 : Int) : Prop where
  e0 : W0 = w.drew
  e1 : W1 = (W0.setCell ⟨b, j * 2, none⟩ (.int .i64 y1)).setCell ⟨b, j * 2 + 1, none⟩ (.int .i64 y2)
  e2 : W2 = (W1.setCell ⟨b, m * 2, none⟩ (.int .i64 x1)).setCell ⟨b, m * 2 + 1, none⟩ (.int .i64 x2)
  dx1 : W0.cell? ⟨b, j * 2, none⟩ = some (.int .i64 x1)
  dx2 : W0.cell? ⟨b, j * 2 + 1, none⟩ = some (.int .i64 x2)
  dy1 : W0.cell? ⟨b, m * 2, none⟩ = some (.int .i64 y1)
  dy2 : W0.cell? ⟨b, m * 2 + 1, none⟩ = some (.int .i64 y2)
  fx1 : W0.frozen? ⟨b, j * 2, none⟩ = false
  fx2 : W0.frozen? ⟨b, j * 2 + 1, none⟩ = false
  dm1 : W1.cell? ⟨b, m * 2, none⟩ = some (.int .i64 y1)
  dm2 : W1.cell? ⟨b, m * 2 + 1, none⟩ = some (.int .i64 y2)
  fm1 : W1.frozen? ⟨b, m * 2, none⟩ = false
  fm2 : W1.frozen? ⟨b, m * 2 + 1, none⟩ = false

theorem swap_ready {base : Nat} {w : World} {b n cap : Nat} {zs : List Bk} (h : Ow 2 bkc 56 base w (.slice (some ⟨b, 0, none⟩) n cap) zs) (j m : Nat) (x1 x2 y1 y2 : Int) (hx : zs[j]? = some (x1, x2)) (hy : zs[m]? = some (y1, y2)) (hjm : j ≠ m) :
    ∃ W0 W1 W2, SwapW w W0 W1 W2 b j m x1 x2 y1 y2 ∧ Ow 2 bkc 56 base W2 (.slice (some ⟨b, 0, none⟩) n cap) ((zs.set j (y1, y2)).set m (x1, x2)) ∧ w.grownBy W2 (some b) := by
  have OWa := h.below (W := w.drew) (Below.refl _ _).drew
  have ga : w.grownBy w.drew (some b) := grownBy_of_below (Below.refl _ _).drew _
  obtain ⟨OWb, gb⟩ := OWa.set_bk j (List.getElem?_eq_some_iff.1 hx).1 y1 y2
  have hym : (zs.set j (y1, y2))[m]? = some (y1, y2) := by rw [List.getElem?_set, if_neg hjm]; exact hy
  obtain ⟨OWc, gc⟩ := OWb.set_bk m (List.getElem?_eq_some_iff.1 hym).1 x1 x2
  exact ⟨_, _, _, ⟨rfl, rfl, rfl, (OWa.cells_at hx).1, (OWa.cells_at hx).2, (OWa.cells_at hy).1, (OWa.cells_at hy).2, OWa.frz _, OWa.frz _, (OWb.cells_at hym).1, (OWb.cells_at hym).2, OWb.frz _, OWb.frz _⟩, OWc, grownBy_step (grownBy_step ga gb) gc⟩

theorem swap_next (A B : List Bk) (x y : Bk) (j : Nat) (hj : j = A.length) : ((A ++ x :: y :: B).set j y).set (j + 1) x = A ++ y :: x :: B := by
  have := swap_far A [] B x y
  simp only [List.length_nil, Nat.add_zero, List.nil_append] at this
  rw [hj]; exact this
theorem swap_prev (A B : List Bk) (x y : Bk) (j : Nat) (hj : j = A.length) : ((A ++ y :: x :: B).set (j + 1) y).set j x = A ++ x :: y :: B := by
  rw [hj]; exact swap_eq A B x y

theorem srt_split {u v : List Bk} {x : Bk} (h : Srt (u ++ v)) (hu : ∀ y ∈ u, y.1 < x.1) (hv : ∀ y ∈ v, x.1 ≤ y.1) : Srt (u ++ x :: v) ∧ StEq (x :: (u ++ v)) (u ++ x :: v) := by
  unfold Srt at h ⊢
  rw [List.pairwise_append] at h ⊢
  refine ⟨⟨h.1, List.pairwise_cons.2 ⟨hv, h.2.1⟩, fun y hy z hz => ?_⟩, ?_⟩
  · rcases List.mem_cons.1 hz with rfl | hz
    · have := hu y hy; omega
    · exact h.2.2 y hy z hz
  · have := (StEq.rot (u := [x]) (v := u) (fun y hy z hz => by simp at hy; subst hy; have := hu z hz; omega)).append (StEq.refl v)
    simpa using this
end Go.Proofs.Ytiaifphidcfddaa
