/-
  PoolWithout's walk.
-/
import Derived.Test.YtiaifphidcfddaaLaw8o
set_option linter.unusedVariables false
set_option linter.unusedSimpArgs false
namespace Go.Proofs.Ytiaifphidcfddaa
open Go.RowKit Go.Shelf

theorem PoolWithout_far (a : Option Addr) (n cap : Nat) (id ot : Int) (w : World) (hn : n ≤ maxLen) (hbig : ¬ n ≤ 60) :
    Calls Try.prog 10 #[.slice a n cap, .int .i64 id, .int .i64 ot] w fun e w' => e = .returned (.bool true) ∧ Below w.heap.size w w' := by
  have h1 : (60 : Int) < (n : Int) := by omega
  unfold maxLen at hn
  go_enter Try.func10, Try.ntmps10
  go_wp2_with (go_at_call 32; refine (works_calls _).mono ?_; rintro e w' ⟨rfl, hb⟩)
  go_ret
  exact ⟨rfl, hb⟩

set_option maxRecDepth 100000 in
set_option maxHeartbeats 2000000 in
theorem PoolWithout_near (a : Option Addr) (n cap : Nat) (id ot : Int) (xs : List Bk) (w : World) (hr : Rd 2 bkc w a n xs) (hw : Wf xs) (hbig : n ≤ 60) :
    Calls Try.prog 10 #[.slice a n cap, .int .i64 id, .int .i64 ot] w fun e w' => e = .returned (.bool true) ∧ Below w.heap.size w w' := by
  have hn : ¬ (60 : Int) < (n : Int) := by omega
  have hn2 := hr.le
  have hf1 : find (without xs id) id = -1 := find_none (by rw [seen_without]; simp)
  have hlen : ¬ (n : Int) < ((without xs id).length : Int) := by have := without_len xs id; have := hr.len; omega
  have hsame := without_without xs id
  have hcases : ot ≠ id → (0 ≤ find (without xs id) ot ∧ 0 ≤ find xs ot) ∨ (find (without xs id) ot < 0 ∧ find xs ot < 0) := by
    intro hne
    have h2 := find_seen (without xs id) ot
    have h3 := find_seen xs ot
    rw [seen_without] at h2
    have : (ot == id) = false := by simpa using hne
    rw [this] at h2
    simp only [Bool.not_false, Bool.and_true] at h2
    by_cases h : seen xs ot = true
    · exact .inl ⟨h2.2 h, h3.2 h⟩
    · exact .inr ⟨by rw [← h2] at h; omega, by rw [← h3] at h; omega⟩
  have hcheck : check xs = 0 → check (without xs id) = 0 := check_without
  have hww := hide (hw.without id)
  have HW := hide hw
  have HR := hide hr
  have hwl : (without xs id).length < 4294967295 := by have := without_len xs id; have := hr.len; omega
  obtain ⟨ys, hys⟩ : ∃ ys, ys = without xs id := ⟨_, rfl⟩
  have HY := hide hys
  have HWL := hide hwl
  rw [← hys] at hf1 hlen hsame hcases hcheck
  have HS := hide hsame
  have hcs : Hid (without ys id = ys) := HS
  clear hw hr hys hwl hsame
  have HF := hide hf1
  clear hf1
  obtain ⟨fy, hfy⟩ : ∃ fy, fy = find ys ot := ⟨_, rfl⟩
  obtain ⟨fx, hfx⟩ : ∃ fx, fx = find xs ot := ⟨_, rfl⟩
  obtain ⟨cy, hcy⟩ : ∃ cy, cy = check ys := ⟨_, rfl⟩
  obtain ⟨cx, hcx⟩ : ∃ cx, cx = check xs := ⟨_, rfl⟩
  rw [← hfy, ← hfx] at hcases
  rw [← hcy, ← hcx] at hcheck
  have HFY := hide hfy
  have HFX := hide hfx
  have HCY := hide hcy
  have HCX := hide hcx
  clear hfy hfx hcy hcx
  have h3 : (id ≠ ot ∧ 0 ≤ fy ∧ 0 ≤ fx) ∨ (id ≠ ot ∧ fy < 0 ∧ fx < 0) ∨ id = ot := by
    by_cases h : id = ot
    · exact .inr (.inr h)
    · rcases hcases (fun e => h e.symm) with h' | h'
      · exact .inl ⟨h, h'⟩
      · exact .inr (.inl ⟨h, h'⟩)
  have h4 : (cx = 0 ∧ cy = 0) ∨ cx ≠ 0 := by
    by_cases h : cx = 0
    · exact .inl ⟨h, hcheck h⟩
    · exact .inr h
  clear hcases hcheck
  rcases h3 with ⟨h31, h32, h33⟩ | ⟨h31, h32, h33⟩ | h31 <;> rcases h4 with ⟨h41, h42⟩ | h41
  all_goals first | subst h41 h42 | (have h41b : (cx != 0) = true := by simpa using h41)
  all_goals first | subst h31 | (have h31b : (id != ot) = true := by simpa using h31)
  all_goals
    go_enter Try.func10, Try.ntmps10
    go_wp2_with (first
      | (go_at_call 32; refine (works_calls _).mono ?_; rintro e w1 ⟨rfl, hb⟩; have HC := hide hb; clear hb)
      | (go_at_call 38; (with_reducible show Calls _ _ #[.slice a8 _ _, _] _ _); refine (Without_calls _ _ _ _ _ _ HV.out (by omega)).mono ?_; rintro e w3 ⟨v, rfl, ho, hb⟩; obtain ⟨a9, cap9, hv, hr9, _⟩ := ho.form bkc_len; subst hv; rw [HS.out] at hr9; rw [HS.out]; have HV9 := hide hr9; replace HV := hide (HV.out.below hb); replace HC := hide (below_then HC.out HC.out.size hb); clear ho hr9 hb)
      | (go_at_call 38; refine (Without_calls _ _ _ _ _ _ (HR.out.below HC.out) (by omega)).mono ?_; rintro e w2 ⟨v, rfl, ho, hb⟩; obtain ⟨a8, cap8, hv, hr8, _⟩ := ho.form bkc_len; subst hv; rw [← HY.out] at hr8; rw [← HY.out]; have HV := hide hr8; replace HC := hide (below_then HC.out HC.out.size hb); clear ho hr8 hb)
      | (go_at_call 29; (with_reducible show Calls _ _ #[.slice a8 _ _, _] _ _); refine (Find_calls _ _ _ _ _ _ HV.out).mono ?_; rintro e w4 ⟨rfl, hb⟩; (first | rw [HF.out] | rw [← HFY.out]); replace HV := hide (HV.out.below hb); replace HC := hide (below_then HC.out HC.out.size hb); clear hb)
      | (go_at_call 29; refine (Find_calls _ _ _ _ _ _ (HR.out.below HC.out)).mono ?_; rintro e w4 ⟨rfl, hb⟩; rw [← HFX.out]; replace HV := hide (HV.out.below hb); replace HC := hide (below_then HC.out HC.out.size hb); clear hb)
      | (go_at_call 26; (with_reducible show Calls _ _ #[.slice a8 _ _] _ _); refine (Check_calls _ _ _ _ _ HV.out (by rw [HY.out]; exact hww.out) (by rw [HY.out]; have := HWL.out; omega)).mono ?_; rintro e w5 ⟨rfl, hb⟩; rw [← HCY.out]; replace HV := hide (HV.out.below hb); replace HC := hide (below_then HC.out HC.out.size hb); clear hb)
      | (go_at_call 26; refine (Check_calls _ _ _ _ _ (HR.out.below HC.out) HW.out (by omega)).mono ?_; rintro e w5 ⟨rfl, hb⟩; rw [← HCX.out]; replace HV := hide (HV.out.below hb); replace HC := hide (below_then HC.out HC.out.size hb); clear hb)
      | (go_at_call 45; refine (Same_calls _ _ _ _ _ _ _ _ _ HV9.out HV.out).mono ?_; rintro e w6 ⟨rfl, hb⟩; rw [decide_eq_true rfl]; replace HC := hide (below_then HC.out HC.out.size hb); clear hb))
    go_ret
    exact ⟨rfl, HC.out⟩

theorem PoolWithout_all (a : Option Addr) (n cap : Nat) (id ot : Int) (xs : List Bk) (w : World) (hr : Rd 2 bkc w a n xs) (hw : Wf xs) :
    Calls Try.prog 10 #[.slice a n cap, .int .i64 id, .int .i64 ot] w fun e w' => e = .returned (.bool true) ∧ Below w.heap.size w w' := by
  by_cases h : n ≤ 60
  · exact PoolWithout_near a n cap id ot xs w hr hw h
  · exact PoolWithout_far a n cap id ot w hr.2.1 h
end Go.Proofs.Ytiaifphidcfddaa
