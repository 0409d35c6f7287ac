/-
  How two places stand: place.order.
-/
import Derived.Test.YtiaifphidcfddaaHash
import Derived.Sort.Grow
import Derived.Deep.RegionHeld3
import Derived.Deep.DrawnRows
set_option linter.unusedVariables false
set_option linter.unusedSimpArgs false
namespace Go.Proofs.Ytiaifphidcfddaa
open Go.RowKit Go.Sort

def cmpZ (x y : Int) : Int := if x < y then -1 else if y < x then 1 else 0

theorem NaNu_calls (x : Int) (w : World) : Calls Try.prog 121 #[.int .u64 x] w fun e w' => e = .returned (.bool false) ∧ w' = w := by
  go_enter Try.func121, Try.ntmps121
  go_wp2
  go_ret
  exact ⟨rfl, rfl⟩
theorem NaNi_calls (x : Int) (w : World) : Calls Try.prog 86 #[.int .i64 x] w fun e w' => e = .returned (.bool false) ∧ w' = w := by
  go_enter Try.func86, Try.ntmps86
  go_wp2
  go_ret
  exact ⟨rfl, rfl⟩

theorem CmpU_calls (x y : Int) (w : World) : Calls Try.prog 99 #[.int .u64 x, .int .u64 y] w fun e w' => e = .returned (.int .i64 (cmpZ x y)) ∧ w' = w := by
  by_cases h : x < y
  · have e : cmpZ x y = -1 := by simp [cmpZ, h]
    rw [e]
    clear e
    go_enter Try.func99, Try.ntmps99
    go_wp2_with (go_at_call 121; refine (NaNu_calls _ _).mono ?_; rintro e w' ⟨rfl, rfl⟩)
    go_ret
    exact ⟨rfl, rfl⟩
  · by_cases h2 : y < x
    · have e : cmpZ x y = 1 := by simp [cmpZ, h, h2]
      rw [e]
      clear e
      go_enter Try.func99, Try.ntmps99
      go_wp2_with (go_at_call 121; refine (NaNu_calls _ _).mono ?_; rintro e w' ⟨rfl, rfl⟩)
      go_ret
      exact ⟨rfl, rfl⟩
    · have e : cmpZ x y = 0 := by simp [cmpZ, h, h2]
      rw [e]
      clear e
      go_enter Try.func99, Try.ntmps99
      go_wp2_with (go_at_call 121; refine (NaNu_calls _ _).mono ?_; rintro e w' ⟨rfl, rfl⟩)
      go_ret
      exact ⟨rfl, rfl⟩
theorem CmpI_calls (x y : Int) (w : World) : Calls Try.prog 67 #[.int .i64 x, .int .i64 y] w fun e w' => e = .returned (.int .i64 (cmpZ x y)) ∧ w' = w := by
  by_cases h : x < y
  · have e : cmpZ x y = -1 := by simp [cmpZ, h]
    rw [e]
    clear e
    go_enter Try.func67, Try.ntmps67
    go_wp2_with (go_at_call 86; refine (NaNi_calls _ _).mono ?_; rintro e w' ⟨rfl, rfl⟩)
    go_ret
    exact ⟨rfl, rfl⟩
  · by_cases h2 : y < x
    · have e : cmpZ x y = 1 := by simp [cmpZ, h, h2]
      rw [e]
      clear e
      go_enter Try.func67, Try.ntmps67
      go_wp2_with (go_at_call 86; refine (NaNi_calls _ _).mono ?_; rintro e w' ⟨rfl, rfl⟩)
      go_ret
      exact ⟨rfl, rfl⟩
    · have e : cmpZ x y = 0 := by simp [cmpZ, h, h2]
      rw [e]
      clear e
      go_enter Try.func67, Try.ntmps67
      go_wp2_with (go_at_call 86; refine (NaNi_calls _ _).mono ?_; rintro e w' ⟨rfl, rfl⟩)
      go_ret
      exact ⟨rfl, rfl⟩

/-- Which one of two numbers is the first that is not zero. -/
def orZ (x y : Int) : Int := if x = 0 then y else x
abbrev Pt := Int × Int
def ordP (x y : Pt) : Int := orZ (cmpZ x.1 y.1) (cmpZ x.2 y.2)

theorem Or2_calls (x y : Int) (B : Nat) (w : World) (h0 : w.cell? ⟨B, 0, none⟩ = some (.int .i64 x)) (h1 : w.cell? ⟨B, 1, none⟩ = some (.int .i64 y)) :
    Calls Try.prog 98 #[.slice (some ⟨B, 0, none⟩) 2 2] w fun e w' => e = .returned (.int .i64 (orZ x y)) ∧ w' = w := by
  by_cases hx : x = 0
  · subst hx
    have e : orZ 0 y = y := by simp [orZ]
    rw [e]
    clear e
    by_cases hy : y = 0
    · subst hy
      go_enter Try.func98, Try.ntmps98
      go_wp2
      refine wp_loop_rounds 3 ?_
      rw [rounds_succ]
      go_wp2
      rw [rounds_succ]
      go_wp2
      rw [rounds_succ]
      go_wp2
      go_ret
      exact ⟨rfl, rfl⟩
    · have hy2 : (y == 0) = false := by simpa using hy
      go_enter Try.func98, Try.ntmps98
      go_wp2
      refine wp_loop_rounds 3 ?_
      rw [rounds_succ]
      go_wp2
      rw [rounds_succ]
      go_wp2
      go_ret
      exact ⟨rfl, rfl⟩
  · have e : orZ x y = x := by simp [orZ, hx]
    rw [e]
    clear e
    go_enter Try.func98, Try.ntmps98
    go_wp2
    refine wp_loop_rounds 3 ?_
    rw [rounds_succ]
    go_wp2
    go_ret
    exact ⟨rfl, rfl⟩

attribute [local go_sem ↓] Go.wp_at_zero Go.wp_at_succ

set_option maxHeartbeats 2000000 in
theorem order_calls (x y : Pt) (w : World) : Calls Try.prog 81 #[.agg #[.int .u64 x.1, .int .i64 x.2], .agg #[.int .u64 y.1, .int .i64 y.2]] w fun e w' => e = .returned (.int .i64 (ordP x y)) ∧ ∃ q os', w' = grow (w.drewN q) os' := by
  obtain ⟨x1, x2⟩ := x
  obtain ⟨y1, y2⟩ := y
  have c1 := CmpU_calls x1 y1
  have c2 := CmpI_calls x2 y2
  have c3 := Or2_calls (cmpZ x1 y1) (cmpZ x2 y2)
  have e : ordP (x1, x2) (y1, y2) = orZ (cmpZ x1 y1) (cmpZ x2 y2) := rfl
  rw [e]
  clear e
  generalize cmpZ x1 y1 = u at c1 c3 ⊢
  generalize cmpZ x2 y2 = v at c2 c3 ⊢
  generalize orZ u v = r at c3 ⊢
  have C1 := hide c1
  have C2 := hide c2
  have C3 := hide c3
  clear c1 c2 c3
  go_enter Try.func81, Try.ntmps81
  go_wp2
  have hne : ∀ (a : Addr) (z : Value), w.cell? a = some z → True := fun _ _ _ => trivial
  obtain ⟨W, hW⟩ : ∃ W, (w.alloc (.cells #[.int .u64 x1, .int .i64 x2] 118)).alloc (.cells #[.int .u64 y1, .int .i64 y2] 118) = W := ⟨_, rfl⟩
  have k1 : W.cell? ⟨w.heap.size, 0, none⟩ = some (.int .u64 x1) := by rw [← hW]; simp
  have k2 : W.cell? ⟨w.heap.size, 1, none⟩ = some (.int .i64 x2) := by rw [← hW]; simp
  have k3 : W.cell? ⟨w.heap.size + 1, 0, none⟩ = some (.int .u64 y1) := by rw [← hW]; simp
  have k4 : W.cell? ⟨w.heap.size + 1, 1, none⟩ = some (.int .i64 y2) := by rw [← hW]; simp
  have hWg : W = grow w #[.cells #[.int .u64 x1, .int .i64 x2] 118, .cells #[.int .u64 y1, .int .i64 y2] 118] := by rw [← hW, alloc_eq_grow, alloc_eq_grow, grow_grow]; rfl
  rw [hW]
  have HW := hide hWg
  clear hW hWg hne
  generalize w.heap.size = B at k1 k2 k3 k4 ⊢
  go_region_held3 (fun w' => w'.cell? ⟨B, 0, none⟩ = some (.int .u64 x1) ∧ w'.cell? ⟨B, 1, none⟩ = some (.int .i64 x2) ∧ w'.cell? ⟨B + 1, 0, none⟩ = some (.int .u64 y1) ∧ w'.cell? ⟨B + 1, 1, none⟩ = some (.int .i64 y2)) (go_keep)
    (first | (go_at_call 99; refine (C1.out _).mono ?_; rintro e w' ⟨rfl, rfl⟩) | (go_at_call 67; refine (C2.out _).mono ?_; rintro e w' ⟨rfl, rfl⟩) | (go_at_call 98; refine (C3.out _ _ ?_ ?_).mono ?_; (simp); (simp); rintro e w' ⟨rfl, rfl⟩))
  go_wp2
  clear k1 k2 k3 k4
  go_ret
  refine ⟨rfl, 1, #[.cells #[.int .u64 x1, .int .i64 x2] 118, .cells #[.int .u64 y1, .int .i64 y2] 118] ++ #[.cells #[.int .i64 u, .int .i64 v] 3], ?_⟩
  rw [HW.out, ← grow_grow, alloc_eq_grow]
  rfl

/-! ### The order, plainly -/
/-- Does one stand ahead? -/
def ltP (x y : Pt) : Bool := decide (x.1 < y.1) || (decide (x.1 = y.1) && decide (x.2 < y.2))
theorem ordP_lt (x y : Pt) : decide (ordP x y < 0) = ltP x y := by
  unfold ordP orZ cmpZ ltP
  by_cases h1 : x.1 < y.1
  · simp [h1]
  · by_cases h2 : y.1 < x.1
    · have h3 : x.1 ≠ y.1 := by omega
      simp [h1, h2, h3]
    · have h3 : x.1 = y.1 := by omega
      by_cases h4 : x.2 < y.2
      · simp [h3, h4]
      · by_cases h5 : y.2 < x.2 <;> simp [h3, h4, h5]
theorem ltP_iff (x y : Pt) : ltP x y = true ↔ x.1 < y.1 ∨ (x.1 = y.1 ∧ x.2 < y.2) := by simp [ltP]
theorem ltP_tot (x y : Pt) (h1 : ltP x y = false) (h2 : ltP y x = false) : x = y := by
  rw [← Bool.not_eq_true, ltP_iff] at h1 h2
  have a : x.1 = y.1 := by omega
  have b : x.2 = y.2 := by omega
  exact Prod.ext a b
def leP (x y : Pt) : Bool := !ltP y x
theorem leP_iff (x y : Pt) : leP x y = true ↔ x.1 < y.1 ∨ (x.1 = y.1 ∧ x.2 ≤ y.2) := by
  unfold leP
  rw [Bool.not_eq_true', ← Bool.not_eq_true, ltP_iff]
  omega
theorem leP_trans (a b c : Pt) (h1 : leP a b = true) (h2 : leP b c = true) : leP a c = true := by rw [leP_iff] at *; omega
theorem leP_total (a b : Pt) : (leP a b || leP b a) = true := by rw [Bool.or_eq_true, leP_iff, leP_iff]; omega
theorem leP_anti (a b : Pt) (h1 : leP a b = true) (h2 : leP b a = true) : a = b := by
  rw [leP_iff] at *
  exact Prod.ext (by omega) (by omega)
end Go.Proofs.Ytiaifphidcfddaa
