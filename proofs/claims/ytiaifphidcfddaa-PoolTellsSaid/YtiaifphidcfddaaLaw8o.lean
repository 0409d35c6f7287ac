/-
  PoolWithout: the plain law, and the walk.
-/
import Derived.Test.YtiaifphidcfddaaWorks8
set_option linter.unusedVariables false
set_option linter.unusedSimpArgs false
namespace Go.Proofs.Ytiaifphidcfddaa
open Go.RowKit Go.Shelf

/-! ### Plain facts on find, without, check -/
theorem find_seen (xs : List Bk) (id : Int) : 0 ≤ find xs id ↔ seen xs id = true := by
  have := idx_ge (fun x : Bk => x.1 == id) xs
  unfold find seen
  rw [← this]; simp
theorem idx_lt {α : Type} (p : α → Bool) (xs : List α) : idx p xs < xs.length := by
  unfold idx
  cases h : xs.findIdx? p with
  | none => simp; omega
  | some i =>
    rw [List.findIdx?_eq_some_iff_getElem] at h
    obtain ⟨hi, _⟩ := h
    simp; omega
theorem idx_lo {α : Type} (p : α → Bool) (xs : List α) : -1 ≤ idx p xs := by
  unfold idx
  cases xs.findIdx? p with
  | none => simp
  | some i => simp
theorem find_none {xs : List Bk} {id : Int} (h : seen xs id = false) : find xs id = -1 := by
  have h1 := idx_lo (fun x : Bk => x.1 == id) xs
  have h2 : ¬ 0 ≤ find xs id := fun hc => by rw [(find_seen xs id).1 hc] at h; cases h
  unfold find at h2 ⊢; omega

theorem seen_without (xs : List Bk) (id y : Int) : seen (without xs id) y = (seen xs y && !(y == id)) := by
  unfold seen without
  induction xs with
  | nil => simp
  | cons x xs ih =>
    simp only [List.filter_cons]
    cases hx : (x.1 == id) with
    | true =>
      simp only [Bool.not_true, Bool.false_eq_true, if_false, List.any_cons]
      rw [ih]
      have : x.1 = id := by simpa using hx
      cases hy : (x.1 == y) with
      | true =>
        have hxy : x.1 = y := by simpa using hy
        have : (y == id) = true := by simp [← hxy, this]
        simp [this]
      | false => simp
    | false =>
      simp only [Bool.not_false, if_true, List.any_cons]
      rw [ih]
      cases hy : (x.1 == y) with
      | true =>
        have hxy : x.1 = y := by simpa using hy
        have : (y == id) = false := by rw [← hxy]; exact hx
        simp [this]
      | false => simp
theorem without_without (xs : List Bk) (id : Int) : without (without xs id) id = without xs id := by
  unfold without; rw [List.filter_filter]; simp
theorem without_len (xs : List Bk) (id : Int) : (without xs id).length ≤ xs.length := List.length_filter_le _ _

/-- chk, said plainly: no number twice, none bad. -/
theorem chk_iff (xs : List Bk) : chk xs = true ↔ (xs.map (·.1)).Nodup ∧ ∀ x ∈ xs, bad x = false := by
  unfold chk
  rw [List.all_eq_true]
  constructor
  · intro h
    have h1 : ∀ j (x : Bk), xs[j]? = some x → seen (xs.take j) x.1 = false ∧ bad x = false := by
      intro j x hx
      have := h j (List.mem_range.2 (List.getElem?_eq_some_iff.1 hx).1)
      rw [hx] at this
      simpa using this
    refine ⟨?_, fun x hx => ?_⟩
    · rw [List.nodup_iff_pairwise_ne, List.pairwise_iff_getElem]
      intro i j hi hj hij he
      simp only [List.length_map] at hi hj
      have := (h1 j xs[j] (List.getElem?_eq_getElem hj)).1
      simp only [List.getElem_map] at he
      have hm : seen (xs.take j) xs[j].1 = true := by
        unfold seen
        rw [List.any_eq_true]
        refine ⟨xs[i], ?_, by simp [he]⟩
        rw [List.mem_iff_getElem]
        exact ⟨i, by simp; omega, by simp⟩
      rw [hm] at this; cases this
    · obtain ⟨j, hj, rfl⟩ := List.getElem_of_mem hx
      exact (h1 j _ (List.getElem?_eq_getElem hj)).2
  · rintro ⟨hn, hb⟩ j hj
    rw [List.mem_range] at hj
    rw [List.getElem?_eq_getElem hj]
    have h2 := hb _ (List.getElem_mem hj)
    have h1 : seen (xs.take j) xs[j].1 = false := by
      cases hs : seen (xs.take j) xs[j].1 with
      | false => rfl
      | true =>
        unfold seen at hs
        rw [List.any_eq_true] at hs
        obtain ⟨x, hx, he⟩ := hs
        obtain ⟨i, hi, rfl⟩ := List.getElem_of_mem hx
        simp only [List.length_take] at hi
        rw [List.nodup_iff_pairwise_ne, List.pairwise_iff_getElem] at hn
        have := hn i j (by simp; omega) (by simpa using hj) (by omega)
        simp at this he
        exact absurd he this
    simp [h1, h2]
theorem check_zero (xs : List Bk) : check xs = 0 ↔ (xs.map (·.1)).Nodup ∧ (∀ x ∈ xs, bad x = false) ∧ xs.length ≤ 32 := by
  unfold check
  rw [← and_assoc, ← chk_iff]
  by_cases h1 : chk xs = true <;> by_cases h2 : xs.length ≤ 32 <;> simp [h1, h2]

theorem check_without {xs : List Bk} {id : Int} (h : check xs = 0) : check (without xs id) = 0 := by
  rw [check_zero] at h ⊢
  obtain ⟨h1, h2, h3⟩ := h
  refine ⟨?_, fun x hx => h2 x (List.mem_filter.1 hx).1, Nat.le_trans (without_len _ _) h3⟩
  exact List.Pairwise.sublist (List.Sublist.map _ List.filter_sublist) h1
theorem Wf.without {xs : List Bk} (h : Wf xs) (id : Int) : Wf (without xs id) := by
  intro j x hx
  have hm := List.mem_of_getElem? hx
  obtain ⟨i, hi, e⟩ := List.getElem_of_mem (List.mem_filter.1 hm).1
  exact h i x (by rw [List.getElem?_eq_getElem hi, e])
end Go.Proofs.Ytiaifphidcfddaa
