/-
  PoolOut: the walk at every input.
-/
import Derived.Test.YtiaifphidcfddaaLaw8Out
import Derived.Test.YtiaifphidcfddaaLaw8With
set_option linter.unusedVariables false
set_option linter.unusedSimpArgs false
namespace Go.Proofs.Ytiaifphidcfddaa
open Go.RowKit Go.Shelf

theorem PoolOut_far (a : Option Addr) (n cap : Nat) (b1 b2 c1 c2 : Int) (w : World) (hn : n ≤ maxLen) (hbig : ¬ n ≤ 60) :
    Calls Try.prog 13 #[.slice a n cap, .agg #[.int .i64 b1, .int .i64 b2], .agg #[.int .i64 c1, .int .i64 c2]] w fun e w' => e = .returned (.bool true) ∧ Below w.heap.size w w' := by
  have h1 : (60 : Int) < (n : Int) := by omega
  unfold maxLen at hn
  have hb0 : Below w.heap.size w ((w.alloc (.cells #[.int .i64 b1, .int .i64 b2] 56)).alloc (.cells #[.int .i64 c1, .int .i64 c2] 56)) := ((Below.refl _ w).alloc (Nat.le_refl _) _).alloc (by simp) _
  have HC0 := hide hb0
  clear hb0
  go_enter Try.func13, Try.ntmps13
  go_wp2_with (go_at_call 32; refine (works_calls _).mono ?_; rintro e w' ⟨rfl, hb⟩)
  go_ret
  exact ⟨rfl, below_then HC0.out HC0.out.size hb⟩

theorem PoolOut_all (a : Option Addr) (n cap : Nat) (b c : Bk) (xs : List Bk) (w : World) (hr : Rd 2 bkc w a n xs) :
    Calls Try.prog 13 #[.slice a n cap, .agg #[.int .i64 b.1, .int .i64 b.2], .agg #[.int .i64 c.1, .int .i64 c.2]] w fun e w' => e = .returned (.bool true) ∧ Below w.heap.size w w' := by
  obtain ⟨b1, b2⟩ := b
  obtain ⟨c1, c2⟩ := c
  by_cases h : n ≤ 60
  · have hl := hr.len
    have hm := withB_len xs (b1, b2)
    by_cases he : b1 = c1
    · exact PoolOut_eq a n cap _ b1 b2 c1 c2 xs _ _ _ w hr h rfl (by omega) rfl (without_withB xs (b1, b2)) rfl (fun e => withB_withB xs (b1, b2) (c1, c2) e) rfl he
    · exact PoolOut_ne a n cap _ b1 b2 c1 c2 xs _ _ _ w hr h rfl (by omega) rfl (without_withB xs (b1, b2)) rfl (fun e => absurd e he) rfl he
  · exact PoolOut_far a n cap b1 b2 c1 c2 w hr.2.1 h
end Go.Proofs.Ytiaifphidcfddaa
