/-
  PoolWith: the walk at every input.
-/
import Derived.Test.YtiaifphidcfddaaLaw8Wi
set_option linter.unusedVariables false
set_option linter.unusedSimpArgs false
namespace Go.Proofs.Ytiaifphidcfddaa
open Go.RowKit Go.Shelf

theorem PoolWith_far (a : Option Addr) (n cap : Nat) (b1 b2 id : Int) (w : World) (hn : n ≤ maxLen) (hbig : ¬ n ≤ 60) :
    Calls Try.prog 9 #[.slice a n cap, .agg #[.int .i64 b1, .int .i64 b2], .int .i64 id] w fun e w' => e = .returned (.bool true) ∧ Below w.heap.size w w' := by
  have h1 : (60 : Int) < (n : Int) := by omega
  unfold maxLen at hn
  have hb0 : Below w.heap.size w (w.alloc (.cells #[.int .i64 b1, .int .i64 b2] 56)) := (Below.refl _ w).alloc (Nat.le_refl _) _
  have HC0 := hide hb0
  clear hb0
  go_enter Try.func9, Try.ntmps9
  go_wp2_with (go_at_call 32; refine (works_calls _).mono ?_; rintro e w' ⟨rfl, hb⟩)
  go_ret
  exact ⟨rfl, below_then HC0.out HC0.out.size hb⟩

theorem PoolWith_all (a : Option Addr) (n cap : Nat) (b : Bk) (id : Int) (xs : List Bk) (w : World) (hr : Rd 2 bkc w a n xs) (hw : Wf xs) (h1 : I64 b.1) (h2 : I64 b.2) :
    Calls Try.prog 9 #[.slice a n cap, .agg #[.int .i64 b.1, .int .i64 b.2], .int .i64 id] w fun e w' => e = .returned (.bool true) ∧ Below w.heap.size w w' := by
  obtain ⟨b1, b2⟩ := b
  by_cases h : n ≤ 60
  · have hl := hr.len
    have hm := withB_len xs (b1, b2)
    obtain ⟨k, hk1, hk2⟩ := find_withB xs (b1, b2)
    have hq : decide (0 ≤ find xs id) = seen xs id := by
      have := find_seen xs id
      cases hs : seen xs id with
      | true => exact decide_eq_true (this.2 hs)
      | false => exact decide_eq_false (fun hc => by rw [this.1 hc] at hs; cases hs)
    have hq2 : id ≠ b1 → decide (0 ≤ find (withB xs (b1, b2)) id) = seen xs id := by
      intro hne
      have h3 := seen_withB xs (b1, b2) id
      have h4 : (b1 == id) = false := by simp; exact fun e => hne e.symm
      simp only [h4, Bool.or_false] at h3
      have := find_seen (withB xs (b1, b2)) id
      rw [h3] at this
      cases hs : seen xs id with
      | true => exact decide_eq_true (this.2 hs)
      | false => exact decide_eq_false (fun hc => by rw [this.1 hc] at hs; cases hs)
    have hall : check xs ≠ 0 ∨ (check xs = 0 ∧ check (withB xs (b1, b2)) = 0 ∧ 1 ≤ b1 ∧ b1 ≤ 65535 ∧ 1 ≤ b2 ∧ b2 ≤ 16 ∧ (withB xs (b1, b2)).length ≤ 32) ∨ (check xs = 0 ∧ check (withB xs (b1, b2)) ≠ 0 ∧ ¬ (1 ≤ b1 ∧ b1 ≤ 65535 ∧ 1 ≤ b2 ∧ b2 ≤ 16 ∧ (withB xs (b1, b2)).length ≤ 32)) := by
      by_cases hx : check xs = 0
      · have hc := check_withB (b := (b1, b2)) hx
        by_cases hy : check (withB xs (b1, b2)) = 0
        · exact .inr (.inl ⟨hx, hy, hc.1 hy⟩)
        · exact .inr (.inr ⟨hx, hy, fun hh => hy (hc.2 hh)⟩)
      · exact .inl hx
    by_cases he : id = b1
    · exact PoolWith_eq a n cap _ k b1 b2 id _ _ _ _ _ xs _ w hr hw h rfl (by omega) rfl (withB_self xs (b1, b2)) (hw.withB h1 h2) hk1 hk2 rfl rfl rfl rfl hq hq2 hall he
    · exact PoolWith_ne a n cap _ k b1 b2 id _ _ _ _ _ xs _ w hr hw h rfl (by omega) rfl (withB_self xs (b1, b2)) (hw.withB h1 h2) hk1 hk2 rfl rfl rfl rfl hq hq2 hall he
  · exact PoolWith_far a n cap b1 b2 id w hr.2.1 h
end Go.Proofs.Ytiaifphidcfddaa
