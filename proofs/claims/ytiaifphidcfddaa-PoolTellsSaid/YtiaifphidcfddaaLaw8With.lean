/-
  Plain facts on a backend put into a pool.
-/
import Derived.Test.YtiaifphidcfddaaLaw8o
set_option linter.unusedVariables false
set_option linter.unusedSimpArgs false
namespace Go.Proofs.Ytiaifphidcfddaa
open Go.RowKit Go.Shelf

theorem withB_cons (x : Bk) (xs : List Bk) (b : Bk) : withB (x :: xs) b = if x.1 == b.1 then b :: xs else x :: withB xs b := by
  unfold withB
  rw [List.findIdx?_cons]
  cases h : (x.1 == b.1) with
  | true => simp
  | false =>
    simp only [Bool.false_eq_true, if_false]
    cases xs.findIdx? (fun x => x.1 == b.1) with
    | none => simp
    | some i => simp
theorem withB_nil (b : Bk) : withB [] b = [b] := by simp [withB]

theorem withB_len (xs : List Bk) (b : Bk) : (withB xs b).length ≤ xs.length + 1 ∧ xs.length ≤ (withB xs b).length := by
  induction xs with
  | nil => simp [withB_nil]
  | cons x xs ih =>
    rw [withB_cons]
    split
    · simp
    · simp; omega

theorem without_withB (xs : List Bk) (b : Bk) : without (withB xs b) b.1 = without xs b.1 := by
  induction xs with
  | nil => simp [withB_nil, without]
  | cons x xs ih =>
    rw [withB_cons]
    cases h : (x.1 == b.1) with
    | true => simp [without, h]
    | false =>
      simp only [Bool.false_eq_true, if_false]
      unfold without at ih ⊢
      simp only [List.filter_cons, h, Bool.not_false, if_true]
      rw [ih]

theorem withB_withB (xs : List Bk) (b c : Bk) (h : b.1 = c.1) : withB (withB xs b) c = withB xs c := by
  induction xs with
  | nil => simp [withB_nil, withB_cons, h]
  | cons x xs ih =>
    rw [withB_cons x xs b, withB_cons x xs c, ← h]
    cases hx : (x.1 == b.1) with
    | true => simp [withB_cons, h]
    | false =>
      simp only [Bool.false_eq_true, if_false]
      rw [withB_cons, ← h, hx]
      simp [ih]

theorem withB_self (xs : List Bk) (b : Bk) : withB (withB xs b) b = withB xs b := withB_withB xs b b rfl

theorem mem_withB {xs : List Bk} {b x : Bk} (h : x ∈ withB xs b) : x = b ∨ x ∈ xs := by
  induction xs with
  | nil => simp [withB_nil] at h; exact .inl h
  | cons y ys ih =>
    rw [withB_cons] at h
    split at h
    · rcases List.mem_cons.1 h with e | e
      · exact .inl e
      · exact .inr (List.mem_cons_of_mem _ e)
    · rcases List.mem_cons.1 h with e | e
      · exact .inr (by rw [e]; exact List.mem_cons_self ..)
      · rcases ih e with e2 | e2
        · exact .inl e2
        · exact .inr (List.mem_cons_of_mem _ e2)
theorem Wf.withB {xs : List Bk} {b : Bk} (h : Wf xs) (h1 : I64 b.1) (h2 : I64 b.2) : Wf (withB xs b) := by
  intro j x hx
  rcases mem_withB (List.mem_of_getElem? hx) with rfl | hm
  · exact ⟨h1, h2⟩
  · obtain ⟨i, hi, e⟩ := List.getElem_of_mem hm
    exact h i x (by rw [List.getElem?_eq_getElem hi, e])

theorem seen_withB (xs : List Bk) (b : Bk) (y : Int) : seen (withB xs b) y = (seen xs y || b.1 == y) := by
  unfold seen
  induction xs with
  | nil => simp [withB_nil]
  | cons x xs ih =>
    rw [withB_cons]
    cases hx : (x.1 == b.1) with
    | true =>
      have : x.1 = b.1 := by simpa using hx
      simp only [if_true, List.any_cons, this]
      cases (b.1 == y) <;> simp
    | false =>
      simp only [Bool.false_eq_true, if_false, List.any_cons]
      rw [ih, Bool.or_assoc]

/-- Where b's number is found, b stands. -/
theorem find_withB (xs : List Bk) (b : Bk) : ∃ k : Nat, find (withB xs b) b.1 = k ∧ (withB xs b)[k]? = some b := by
  induction xs with
  | nil => exact ⟨0, by simp [withB_nil, find, idx, List.findIdx?_cons], by simp [withB_nil]⟩
  | cons x xs ih =>
    rw [withB_cons]
    cases hx : (x.1 == b.1) with
    | true => exact ⟨0, by simp [find, idx, List.findIdx?_cons], by simp⟩
    | false =>
      obtain ⟨k, h1, h2⟩ := ih
      refine ⟨k + 1, ?_, by simpa using h2⟩
      simp only [Bool.false_eq_true, if_false]
      unfold find idx at h1 ⊢
      rw [List.findIdx?_cons, hx]
      simp only [Bool.false_eq_true, if_false]
      cases hq : (withB xs b).findIdx? (fun x => x.1 == b.1) with
      | none => rw [hq] at h1; simp at h1
      | some i => rw [hq] at h1; simp at h1 ⊢; omega

theorem map_withB (xs : List Bk) (b : Bk) : (withB xs b).map (·.1) = if seen xs b.1 then xs.map (·.1) else xs.map (·.1) ++ [b.1] := by
  induction xs with
  | nil => simp [withB_nil, seen]
  | cons x xs ih =>
    rw [withB_cons]
    cases hx : (x.1 == b.1) with
    | true =>
      have : x.1 = b.1 := by simpa using hx
      simp [seen, this]
    | false =>
      simp only [Bool.false_eq_true, if_false, List.map_cons]
      rw [ih]
      have : seen (x :: xs) b.1 = seen xs b.1 := by simp [seen, hx]
      rw [this]
      split <;> simp

/-- Of a pool that may be: with b it may be, just if b is right and there are not too many. -/
theorem check_withB {xs : List Bk} {b : Bk} (h : check xs = 0) : check (withB xs b) = 0 ↔ (1 ≤ b.1 ∧ b.1 ≤ 65535 ∧ 1 ≤ b.2 ∧ b.2 ≤ 16 ∧ (withB xs b).length ≤ 32) := by
  rw [check_zero] at h ⊢
  obtain ⟨h1, h2, h3⟩ := h
  have hbad : bad b = false ↔ 1 ≤ b.1 ∧ b.1 ≤ 65535 ∧ 1 ≤ b.2 ∧ b.2 ≤ 16 := by
    simp only [bad, List.any_cons, List.any_nil, bad2, Bool.or_false, Bool.or_eq_false_iff, decide_eq_false_iff_not]
    omega
  have hmem : b ∈ withB xs b := by
    obtain ⟨k, _, hk⟩ := find_withB xs b
    exact List.mem_of_getElem? hk
  have hnd : ((withB xs b).map (·.1)).Nodup := by
    rw [map_withB]
    split
    · exact h1
    · rename_i hs
      rw [List.nodup_append]
      refine ⟨h1, by simp, fun a ha c hc => ?_⟩
      simp at hc; subst hc
      intro e
      apply hs
      obtain ⟨x, hx, hxa⟩ := List.mem_map.1 ha
      unfold seen
      rw [List.any_eq_true]
      exact ⟨x, hx, by simp [hxa, e]⟩
  constructor
  · rintro ⟨_, g2, g3⟩
    have := hbad.1 (g2 b hmem)
    omega
  · rintro ⟨g1, g2, g3, g4, g5⟩
    refine ⟨hnd, fun x hx => ?_, g5⟩
    rcases mem_withB hx with rfl | hm
    · exact hbad.2 ⟨g1, g2, g3, g4⟩
    · exact h2 x hm
end Go.Proofs.Ytiaifphidcfddaa
