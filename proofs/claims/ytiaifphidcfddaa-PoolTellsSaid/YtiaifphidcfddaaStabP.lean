/-
  Plain facts on stable sorting, and on the row that is sorted.
-/
import Derived.Test.YtiaifphidcfddaaPool4
set_option linter.unusedVariables false
set_option linter.unusedSimpArgs false
namespace Go.Proofs.Ytiaifphidcfddaa
open Go.RowKit

def Srt (l : List Bk) : Prop := l.Pairwise (fun x y => x.1 ≤ y.1)
/-- The same backends; those of one number in the same order. -/
def StEq (u v : List Bk) : Prop := u.Perm v ∧ ∀ id : Int, u.filter (fun x => x.1 == id) = v.filter (fun x => x.1 == id)

theorem StEq.refl (u : List Bk) : StEq u u := ⟨List.Perm.refl u, fun _ => rfl⟩
theorem StEq.trans {u v w : List Bk} (h : StEq u v) (k : StEq v w) : StEq u w := ⟨h.1.trans k.1, fun id => (h.2 id).trans (k.2 id)⟩
theorem StEq.symm {u v : List Bk} (h : StEq u v) : StEq v u := ⟨h.1.symm, fun id => (h.2 id).symm⟩
theorem StEq.append {u v u' v' : List Bk} (h : StEq u u') (k : StEq v v') : StEq (u ++ v) (u' ++ v') :=
  ⟨h.1.append k.1, fun id => by rw [List.filter_append, List.filter_append, h.2 id, k.2 id]⟩
theorem StEq.len {u v : List Bk} (h : StEq u v) : u.length = v.length := h.1.length_eq

theorem filter_none_of {l : List Bk} {id : Int} (h : ∀ x ∈ l, x.1 ≠ id) : l.filter (fun x => x.1 == id) = [] := by
  rw [List.filter_eq_nil_iff]
  intro x hx; simpa using h x hx
/-- Two rows without a number in common change places. -/
theorem StEq.rot {u v : List Bk} (h : ∀ x ∈ u, ∀ y ∈ v, x.1 ≠ y.1) : StEq (u ++ v) (v ++ u) := by
  refine ⟨List.perm_append_comm, fun id => ?_⟩
  rw [List.filter_append, List.filter_append]
  by_cases hu : ∃ x ∈ u, x.1 = id
  · obtain ⟨x, hx, rfl⟩ := hu
    have : v.filter (fun y => y.1 == x.1) = [] := filter_none_of (fun y hy e => h x hx y hy e.symm)
    rw [this]; simp
  · have : u.filter (fun y => y.1 == id) = [] := filter_none_of (fun y hy e => hu ⟨y, hy, e⟩)
    rw [this]; simp

/-- One row alone is the stable sort of a row. -/
theorem StEq.unique : ∀ {u v : List Bk}, Srt u → Srt v → StEq u v → u = v
  | [], v, _, _, h => (List.eq_nil_of_length_eq_zero (by rw [← h.len]; rfl)).symm
  | x :: u, [], _, _, h => by have := h.len; simp at this
  | x :: u, y :: v, hu, hv, h => by
    have hu' := List.pairwise_cons.1 hu
    have hv' := List.pairwise_cons.1 hv
    have hxy : x.1 = y.1 := by
      have h1 : x ∈ y :: v := h.1.mem_iff.1 (by simp)
      have h2 : y ∈ x :: u := h.1.mem_iff.2 (by simp)
      have g1 : y.1 ≤ x.1 := by
        rcases List.mem_cons.1 h1 with e | e
        · rw [e]; omega
        · exact hv'.1 x e
      have g2 : x.1 ≤ y.1 := by
        rcases List.mem_cons.1 h2 with e | e
        · rw [e]; omega
        · exact hu'.1 y e
      omega
    have hf := h.2 x.1
    simp only [List.filter_cons, beq_self_eq_true, if_true, ← hxy] at hf
    obtain ⟨rfl, ht⟩ := List.cons.inj hf
    have : u = v := by
      refine StEq.unique hu'.2 hv'.2 ⟨List.Perm.cons_inv h.1, fun id => ?_⟩
      have := h.2 id
      simp only [List.filter_cons] at this
      split at this
      · exact (List.cons.inj this).2
      · exact this
    rw [this]

theorem swap_eq (A B : List Bk) (x y : Bk) : ((A ++ y :: x :: B).set (A.length + 1) y).set A.length x = A ++ x :: y :: B := by
  rw [List.set_append_right _ _ (by omega), show A.length + 1 - A.length = 1 by omega]
  simp only [List.set_cons_succ, List.set_cons_zero]
  rw [List.set_append_right _ _ (by omega), Nat.sub_self]
  rfl

section
variable {e : TypeId} {base : Nat} {w : World} {b n cap : Nat} {zs : List Bk}
theorem Ow.len_bk (h : Ow 2 bkc e base w (.slice (some ⟨b, 0, none⟩) n cap) zs) : n = zs.length := by
  obtain ⟨_, _, hv, _, _⟩ := h.form bkc_len
  cases hv; rfl
theorem Ow.block_lt (h : Ow 2 bkc e base w (.slice (some ⟨b, 0, none⟩) n cap) zs) : b < w.heap.size ∧ base ≤ b := by
  obtain ⟨a, c, hv, hr, hb⟩ := h.form bkc_len
  cases hv
  exact ⟨(hr.2.2.2 _ rfl).2.1, (hb _ rfl).1⟩
theorem Ow.cells_at (h : Ow 2 bkc e base w (.slice (some ⟨b, 0, none⟩) n cap) zs) {i : Nat} {x : Bk} (hx : zs[i]? = some x) : w.cell? ⟨b, i * 2, none⟩ = some (.int .i64 x.1) ∧ w.cell? ⟨b, i * 2 + 1, none⟩ = some (.int .i64 x.2) := by
  obtain ⟨a, c, hv, hr, hb⟩ := h.form bkc_len
  cases hv
  have hc := (hr.2.2.2 _ rfl).2.2 i x hx
  exact ⟨by simpa using hc 0 _ rfl, by simpa using hc 1 _ rfl⟩
theorem Ow.grow {W : World} {row : Option Nat} (h : Ow 2 bkc e base w (.slice (some ⟨b, 0, none⟩) n cap) zs) (hg : w.grownBy W none) : Ow 2 bkc e base W (.slice (some ⟨b, 0, none⟩) n cap) zs := h.kept hg (by simp [Value.ownBlock])
theorem Ow.frz (h : Ow 2 bkc e base w (.slice (some ⟨b, 0, none⟩) n cap) zs) (i : Nat) : w.frozen? ⟨b, i, none⟩ = false := by
  have hl := h.len_bk
  subst hl
  exact World.ownsRow.frozenAt h i
end
/-- Growing by one row, then by nothing, then by the row again. -/
theorem grownBy_step {w w1 w2 : World} {b : Nat} (h : w.grownBy w1 (some b)) (k : w1.grownBy w2 (some b)) : w.grownBy w2 (some b) := h.andThen k (fun j hj => .inr hj)
theorem grownBy_below {w w1 w2 : World} {b : Nat} (h : w.grownBy w1 (some b)) (k : Below w1.heap.size w1 w2) : w.grownBy w2 (some b) := grownBy_step h (grownBy_of_below k _)
end Go.Proofs.Ytiaifphidcfddaa
