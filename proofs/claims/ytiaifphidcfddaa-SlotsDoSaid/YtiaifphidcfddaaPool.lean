/-
  Contracts of package pool's functions (and of the library's that they call), by walks.
-/
import Derived.Test.YtiaifphidcfddaaMem
import Derived.Test.YtiaifphidcfddaaSet
import Derived.Test.YtiaifphidcfddaaProg
import Derived.Shelf.Abstract
set_option linter.unusedVariables false
set_option linter.unusedSimpArgs false
namespace Go.Proofs.Ytiaifphidcfddaa
open Go.RowKit Go.Shelf

def idx {α : Type} (p : α → Bool) (xs : List α) : Int := match xs.findIdx? p with | some i => (i : Int) | none => -1

theorem idx_hit {α : Type} {p : α → Bool} {xs : List α} {k : Nat} {x : α} (hx : xs[k]? = some x) (hp : p x = true) (hb : ∀ j y, j < k → xs[j]? = some y → p y = false) : idx p xs = k := by
  unfold idx
  have : xs.findIdx? p = some k := by
    rw [List.findIdx?_eq_some_iff_getElem]
    obtain ⟨hlt, hx'⟩ := List.getElem?_eq_some_iff.1 hx
    refine ⟨hlt, by rw [hx']; exact hp, fun j hj => ?_⟩
    have := hb j _ hj (List.getElem?_eq_getElem (by omega))
    simp [this]
  rw [this]
theorem idx_miss {α : Type} {p : α → Bool} {xs : List α} (hb : ∀ j y, j < xs.length → xs[j]? = some y → p y = false) : idx p xs = -1 := by
  unfold idx
  have : xs.findIdx? p = none := by
    rw [List.findIdx?_eq_none_iff]
    intro x hx
    obtain ⟨j, hj, e⟩ := List.getElem_of_mem hx
    exact hb j x hj (by rw [List.getElem?_eq_getElem hj, e])
  rw [this]

theorem El_bk : El Try.prog 31 56 2 16 (.agg #[.int .i64 0, .int .i64 0]) :=
  El.of Try.underlying31 (by kernel_rfl) rfl (by omega)
theorem El_int : El Try.prog 62 3 1 8 (.int .i64 0) :=
  El.of Try.underlying62 (by kernel_rfl) rfl (by omega)
theorem bkc_one (x : Bk) : ∀ u ∈ bkc x, u.oneCell' = true := by intro u hu; simp [bkc] at hu; rcases hu with rfl | rfl <;> rfl
theorem i64c_one (x : Int) : ∀ u ∈ i64c x, u.oneCell' = true := by intro u hu; simp [i64c] at hu; subst hu; rfl

/-! ### slices.IndexFunc -/
set_option maxHeartbeats 400000 in
theorem IndexFunc_bk (a : Option Addr) (n cap : Nat) (xs : List Bk) (g : Nat) (lb : Array Value) (p : Bk → Bool) (w : World) (hr : Rd 2 bkc w a n xs)
    (eg : ∀ args w, (callFunc g args).run Try.prog w = .ok (.enter g args) w)
    (hp : ∀ W x, Below w.heap.size w W → Calls Try.prog g (#[.agg #[.int .i64 x.1, .int .i64 x.2]] ++ lb) W fun e w' => e = .returned (.bool (p x)) ∧ Below W.heap.size W w') :
    Calls Try.prog 62 #[.slice a n cap, .func (.func g) #[] lb] w fun e w' => e = .returned (.int .i64 (idx p xs)) ∧ Below w.heap.size w w' := by
  have hn := hr.le
  have HL := hide hr.len
  have HR := hide hr
  clear hr
  go_enter Try.func62, Try.ntmps62
  go_wp2
  go_loopg [5, 8] n (fun gg _ s8 wr => ∃ kk : Nat, kk ≤ n ∧ n - kk ≤ gg ∧ s8 = .int .i64 kk ∧ Hid (Below w.heap.size w wr) ∧ Hid (∀ j x, j < kk → xs[j]? = some x → p x = false))
  case atStart => exact ⟨0, Nat.zero_le _, by omega, rfl, Below.refl _ w, fun j x hj => absurd hj (Nat.not_lt_zero _)⟩
  case round =>
    obtain ⟨kk, hkk, hg, rfl, BW, A⟩ := hrel
    by_cases hlt : kk < n
    · have hltz : (kk : Int) < (n : Int) := by omega
      obtain ⟨b, off, x1, x2, ha, hx, hb, hc1, hc2⟩ := (HR.out.below BW.out).at_bk kk hlt
      have HX := hide hx
      clear hx
      have hcall := hp wr (x1, x2) BW.out
      clear hp
      subst ha
      cases hq : p (x1, x2) with
      | true =>
        rw [hq] at hcall
        have HQ := hide hq
        clear hq
        go_wp2_with (go_at_fn g; refine hcall.mono ?_; rintro e w' ⟨rfl, hb'⟩)
        go_ret
        exact ⟨by rw [idx_hit HX.out HQ.out A.out]; rfl, below_then BW.out BW.out.size hb'⟩
      | false =>
        rw [hq] at hcall
        have HQ := hide hq
        clear hq
        go_wp2_with (go_at_fn g; refine hcall.mono ?_; rintro e w' ⟨rfl, hb'⟩)
        go_roundg (n - (kk + 1))
        case measure => omega
        case rel =>
          refine ⟨kk + 1, by omega, by omega, by go_num, below_then BW.out BW.out.size hb', (show Hid _ from fun j x hj hxj => ?_)⟩
          by_cases e : j = kk
          · subst e
            rw [HX.out] at hxj
            cases hxj
            exact HQ.out
          · exact A.out j x (by omega) hxj
    · have hltz : ¬ (kk : Int) < (n : Int) := by omega
      have : kk = n := by omega
      subst this
      go_wp2
      go_ret
      exact ⟨by rw [idx_miss (fun j y hj => A.out j y (by have := HL.out; omega))]; rfl, BW.out⟩

/-! ### slices.IndexFunc at [2]int -/
set_option maxHeartbeats 400000 in
theorem IndexFunc_pr (a : Option Addr) (n cap : Nat) (xs : List Bk) (g : Nat) (lb : Array Value) (p : Bk → Bool) (w : World) (hr : Rd 2 bkc w a n xs)
    (eg : ∀ args w, (callFunc g args).run Try.prog w = .ok (.enter g args) w)
    (hp : ∀ W x, Below w.heap.size w W → Calls Try.prog g (#[.agg #[.int .i64 x.1, .int .i64 x.2]] ++ lb) W fun e w' => e = .returned (.bool (p x)) ∧ Below W.heap.size W w') :
    Calls Try.prog 93 #[.slice a n cap, .func (.func g) #[] lb] w fun e w' => e = .returned (.int .i64 (idx p xs)) ∧ Below w.heap.size w w' := by
  have hn := hr.le
  have HL := hide hr.len
  have HR := hide hr
  clear hr
  go_enter Try.func93, Try.ntmps93
  go_wp2
  go_loopg [5, 8] n (fun gg _ s8 wr => ∃ kk : Nat, kk ≤ n ∧ n - kk ≤ gg ∧ s8 = .int .i64 kk ∧ Hid (Below w.heap.size w wr) ∧ Hid (∀ j x, j < kk → xs[j]? = some x → p x = false))
  case atStart => exact ⟨0, Nat.zero_le _, by omega, rfl, Below.refl _ w, fun j x hj => absurd hj (Nat.not_lt_zero _)⟩
  case round =>
    obtain ⟨kk, hkk, hg, rfl, BW, A⟩ := hrel
    by_cases hlt : kk < n
    · have hltz : (kk : Int) < (n : Int) := by omega
      obtain ⟨b, off, x1, x2, ha, hx, hb, hc1, hc2⟩ := (HR.out.below BW.out).at_bk kk hlt
      have HX := hide hx
      clear hx
      have hcall := hp wr (x1, x2) BW.out
      clear hp
      subst ha
      cases hq : p (x1, x2) with
      | true =>
        rw [hq] at hcall
        have HQ := hide hq
        clear hq
        go_wp2_with (go_at_fn g; refine hcall.mono ?_; rintro e w' ⟨rfl, hb'⟩)
        go_ret
        exact ⟨by rw [idx_hit HX.out HQ.out A.out]; rfl, below_then BW.out BW.out.size hb'⟩
      | false =>
        rw [hq] at hcall
        have HQ := hide hq
        clear hq
        go_wp2_with (go_at_fn g; refine hcall.mono ?_; rintro e w' ⟨rfl, hb'⟩)
        go_roundg (n - (kk + 1))
        case measure => omega
        case rel =>
          refine ⟨kk + 1, by omega, by omega, by go_num, below_then BW.out BW.out.size hb', (show Hid _ from fun j x hj hxj => ?_)⟩
          by_cases e : j = kk
          · subst e
            rw [HX.out] at hxj
            cases hxj
            exact HQ.out
          · exact A.out j x (by omega) hxj
    · have hltz : ¬ (kk : Int) < (n : Int) := by omega
      have : kk = n := by omega
      subst this
      go_wp2
      go_ret
      exact ⟨by rw [idx_miss (fun j y hj => A.out j y (by have := HL.out; omega))]; rfl, BW.out⟩

/-! ### pool.named, pool.Find -/
theorem named_calls (id : Int) (W : World) :
    Calls Try.prog 63 #[.int .i64 id] W fun e w' => e = .returned (.func (.func 82) #[] #[.pointer (some ⟨W.heap.size, 0, none⟩)]) ∧ w' = W.alloc (.cells #[.int .i64 id] 3) := by
  go_enter Try.func63, Try.ntmps63
  go_wp2
  go_ret
  exact ⟨rfl, rfl⟩

theorem named1_calls (id : Int) (B : Nat) (W : World) (x : Bk) (hc : W.cell? ⟨B, 0, none⟩ = some (.int .i64 id)) :
    Calls Try.prog 82 #[.agg #[.int .i64 x.1, .int .i64 x.2], .pointer (some ⟨B, 0, none⟩)] W fun e w' => e = .returned (.bool (x.1 == id)) ∧ Below W.heap.size W w' := by
  have hlt : B < W.heap.size := World.block_lt_of_cell? W _ hc
  have hne : B ≠ W.heap.size := by omega
  go_enter Try.func82, Try.ntmps82
  go_wp2
  go_ret
  exact ⟨rfl, (Below.refl _ _).alloc (Nat.le_refl _) _⟩

def find (xs : List Bk) (id : Int) : Int := idx (fun x : Bk => x.1 == id) xs

theorem Find_calls (a : Option Addr) (n cap : Nat) (xs : List Bk) (id : Int) (w : World) (hr : Rd 2 bkc w a n xs) :
    Calls Try.prog 29 #[.slice a n cap, .int .i64 id] w fun e w' => e = .returned (.int .i64 (find xs id)) ∧ Below w.heap.size w w' := by
  have eg : ∀ args w, (callFunc 82 args).run Try.prog w = .ok (.enter 82 args) w := enters_of Try.func82 (by kernel_rfl) rfl
  have hb1 : Below w.heap.size w (w.alloc (.cells #[.int .i64 id] 3)) := (Below.refl _ _).alloc (Nat.le_refl _) _
  have hcon := IndexFunc_bk a n cap xs 82 #[.pointer (some ⟨w.heap.size, 0, none⟩)] (fun x : Bk => x.1 == id) _ (hr.below hb1) eg
    (fun W x hW => named1_calls id w.heap.size W x ((hW.cell (p := ⟨w.heap.size, 0, none⟩) (by simp)).trans (by simp)))
  clear hr
  go_enter Try.func29, Try.ntmps29
  go_wp2_with (first | (go_at_call 63; refine (named_calls _ _).mono ?_; rintro e w' ⟨rfl, rfl⟩) | (go_at_call 62; refine hcon.mono ?_; rintro e w' ⟨rfl, hb'⟩))
  go_ret
  exact ⟨rfl, below_then hb1 (by simp) hb'⟩

/-! ### pool.within -/
def bad2 (x : Bk) : Bool := decide (x.1 < 1) || decide (x.2 < x.1)

theorem within1_calls (W : World) (x : Bk) :
    Calls Try.prog 78 #[.agg #[.int .i64 x.1, .int .i64 x.2]] W fun e w' => e = .returned (.bool (bad2 x)) ∧ Below W.heap.size W w' := by
  by_cases h1 : x.1 < 1
  · have e : bad2 x = true := by simp [bad2, h1]
    rw [e]
    go_enter Try.func78, Try.ntmps78
    go_wp2
    go_ret
    exact ⟨rfl, (Below.refl _ _).alloc (Nat.le_refl _) _⟩
  · by_cases h2 : x.2 < x.1
    · have e : bad2 x = true := by simp [bad2, h2]
      rw [e]
      go_enter Try.func78, Try.ntmps78
      go_wp2
      go_ret
      exact ⟨rfl, (Below.refl _ _).alloc (Nat.le_refl _) _⟩
    · have e : bad2 x = false := by simp [bad2, h1, h2]
      rw [e]
      go_enter Try.func78, Try.ntmps78
      go_wp2
      go_ret
      exact ⟨rfl, (Below.refl _ _).alloc (Nat.le_refl _) _⟩

theorem idx_ge {α : Type} (p : α → Bool) (xs : List α) : decide (0 ≤ idx p xs) = xs.any p := by
  unfold idx
  cases h : xs.findIdx? p with
  | none =>
    rw [List.findIdx?_eq_none_iff] at h
    have : xs.any p = false := by rw [List.any_eq_false]; intro x hx; simp [h x hx]
    rw [this]; rfl
  | some i =>
    rw [List.findIdx?_eq_some_iff_getElem] at h
    obtain ⟨hi, hp, _⟩ := h
    have : xs.any p = true := List.any_eq_true.2 ⟨xs[i], List.getElem_mem hi, hp⟩
    rw [this]; simp

theorem ContainsFunc_pr (a : Option Addr) (n cap : Nat) (xs : List Bk) (g : Nat) (lb : Array Value) (p : Bk → Bool) (w : World) (hr : Rd 2 bkc w a n xs)
    (eg : ∀ args w, (callFunc g args).run Try.prog w = .ok (.enter g args) w)
    (hp : ∀ W x, Below w.heap.size w W → Calls Try.prog g (#[.agg #[.int .i64 x.1, .int .i64 x.2]] ++ lb) W fun e w' => e = .returned (.bool (p x)) ∧ Below W.heap.size W w') :
    Calls Try.prog 77 #[.slice a n cap, .func (.func g) #[] lb] w fun e w' => e = .returned (.bool (xs.any p)) ∧ Below w.heap.size w w' := by
  have hcon := IndexFunc_pr a n cap xs g lb p w hr eg hp
  rw [← idx_ge]
  clear hr hp
  go_enter Try.func77, Try.ntmps77
  go_wp2_with (go_at_call 93; refine hcon.mono ?_; rintro e w' ⟨rfl, hb'⟩)
  go_ret
  exact ⟨rfl, hb'⟩

theorem within_calls (a : Option Addr) (n cap : Nat) (xs : List Bk) (w : World) (hr : Rd 2 bkc w a n xs) :
    Calls Try.prog 58 #[.slice a n cap] w fun e w' => e = .returned (.bool (!xs.any bad2)) ∧ Below w.heap.size w w' := by
  have eg : ∀ args w, (callFunc 78 args).run Try.prog w = .ok (.enter 78 args) w := enters_of Try.func78 (by kernel_rfl) rfl
  have hcon := ContainsFunc_pr a n cap xs 78 #[] bad2 w hr eg (fun W x _ => within1_calls W x)
  clear hr
  generalize xs.any bad2 = r at hcon ⊢
  go_enter Try.func58, Try.ntmps58
  go_wp2_with (go_at_call 77; refine hcon.mono ?_; rintro e w' ⟨rfl, hb'⟩)
  go_ret
  exact ⟨rfl, hb'⟩
end Go.Proofs.Ytiaifphidcfddaa
