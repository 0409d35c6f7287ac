/-
  Where a hash goes to, on a ring of points: the program's and the reference's.
-/
import Derived.Test.YtiaifphidcfddaaROf
set_option linter.unusedVariables false
set_option linter.unusedSimpArgs false
namespace Go.Proofs.Ytiaifphidcfddaa
open Go.RowKit Go.Shelf

/-- Where a hash goes to. -/
def headP : List Pt → Int
  | [] => -1
  | x :: _ => x.2
def succP (l : List Pt) (h : Int) : Int :=
  match l.find? (fun x => decide (h ≤ x.1)) with
  | some x => x.2
  | none => headP l

theorem succ_hit {l : List Pt} {h : Int} {k : Nat} {x : Pt} (hx : l[k]? = some x) (hh : h ≤ x.1) (A : ∀ j y, j < k → l[j]? = some y → ¬ h ≤ y.1) : succP l h = x.2 := by
  have : l.find? (fun x => decide (h ≤ x.1)) = some x := by
    rw [List.find?_eq_some_iff_getElem]
    obtain ⟨hk, rfl⟩ := List.getElem?_eq_some_iff.1 hx
    refine ⟨by simpa using hh, k, hk, rfl, fun j hj => ?_⟩
    have := A j l[j] hj (List.getElem?_eq_getElem (by omega))
    simpa using this
  unfold succP
  rw [this]
theorem succ_miss {l : List Pt} {h : Int} (A : ∀ j y, j < l.length → l[j]? = some y → ¬ h ≤ y.1) : succP l h = headP l := by
  have : l.find? (fun x => decide (h ≤ x.1)) = none := by
    rw [List.find?_eq_none]
    intro x hx
    obtain ⟨j, hj⟩ := List.getElem?_of_mem hx
    simpa using A j x (List.getElem?_eq_some_iff.1 hj).1 hj
  unfold succP
  rw [this]

set_option maxHeartbeats 2000000 in
theorem RSucc_calls (a : Option Addr) (n cap : Nat) (xs : List Pt) (h : Int) (w : World) (hr : Rd 2 ptc w a n xs) :
    Calls Try.prog 75 #[.slice a n cap, .int .u64 h] w fun e w' => e = .returned (.int .i64 (succP xs h)) ∧ w' = w := by
  have hn := hr.le
  have HL := hide hr.len
  have HR := hide hr
  clear hr
  go_enter Try.func75, Try.ntmps75
  go_wp2
  go_loopg [5] n (fun gg s5 wr => ∃ kk : Nat, kk ≤ n ∧ n - kk ≤ gg ∧ s5 = .int .i64 kk ∧ Hid (wr = w) ∧ Hid (∀ j x, j < kk → xs[j]? = some x → ¬ h ≤ x.1))
  case atStart => exact ⟨0, Nat.zero_le _, by omega, rfl, (hide rfl), fun j x hj => absurd hj (Nat.not_lt_zero _)⟩
  case round =>
    obtain ⟨kk, hkk, hg, rfl, BW, A⟩ := hrel
    obtain rfl : w = wr := BW.out.symm
    by_cases hlt : kk < n
    · have hltz : (kk : Int) < (n : Int) := by omega
      obtain ⟨b, off, x1, x2, ha, hx, hb, hc1, hc2⟩ := HR.out.at_pt kk hlt
      have HX := hide hx
      clear hx
      subst ha
      by_cases hq : h ≤ x1
      · have HF := hide (succ_hit HX.out hq A.out)
        go_wp2
        go_ret
        exact ⟨by rw [HF.out]; rfl, rfl⟩
      · have HQ := hide hq
        go_wp2
        go_roundg (n - (kk + 1))
        case measure => omega
        case rel =>
          refine ⟨kk + 1, by omega, by omega, by go_num, (hide rfl), (show Hid _ from fun j x hj hxj => ?_)⟩
          by_cases e : j = kk
          · subst e
            rw [HX.out] at hxj
            cases hxj
            exact HQ.out
          · exact A.out j x (by omega) hxj
    · have hltz : ¬ (kk : Int) < (n : Int) := by omega
      have : kk = n := by omega
      subst this
      have HF := hide (succ_miss (l := xs) (h := h) (fun j y hj => A.out j y (by have := HL.out; omega)))
      by_cases hz : kk = 0
      · have hk0 := hz
        subst hz
        have HN := hide (show xs = [] from List.eq_nil_of_length_eq_zero HL.out.symm)
        go_wp2
        go_ret
        exact ⟨by rw [HF.out, HN.out]; rfl, rfl⟩
      · obtain ⟨b, off, x1, x2, ha, hx, hb, hc1, hc2⟩ := HR.out.at_pt 0 (by omega)
        have HX := hide hx
        clear hx hc1
        have hkz : (0 : Int) < (kk : Int) := by omega
        have hkb : ((kk : Int) == 0) = false := by simp; omega
        have hc2' : w.cell? ⟨b, off + 1, none⟩ = some (.int .i64 x2) := by simpa using hc2
        subst ha
        clear hc2
        go_wp2
        go_ret
        refine ⟨?_, rfl⟩
        rw [HF.out]
        have := HX.out
        cases xs with
        | nil => simp at this
        | cons y ys => simp at this; subst this; rfl

/-! ### sort.Search -/
set_option maxHeartbeats 2000000 in
theorem Search_calls (n g : Nat) (lb : Array Value) (p : Nat → Bool) (hn : n < 4294967296) (w : World) (eg : ∀ args w, (callFunc g args).run Try.prog w = .ok (.enter g args) w)
    (hp : ∀ k W, k < n → Below w.heap.size w W → Calls Try.prog g (#[.int .i64 (k : Int)] ++ lb) W fun e w' => e = .returned (.bool (p k)) ∧ Below W.heap.size W w') (hmono : ∀ i j, i ≤ j → j < n → p i = true → p j = true) :
    Calls Try.prog 89 #[.int .i64 (n : Int), .func (.func g) #[] lb] w fun e w' => ∃ m : Nat, e = .returned (.int .i64 (m : Int)) ∧ (m ≤ n ∧ (∀ i, i < m → p i = false) ∧ (m < n → p m = true)) ∧ Below w.heap.size w w' := by
  have HP := hide hp
  have HM := hide hmono
  clear hp hmono
  go_enter Try.func89, Try.ntmps89
  go_wp2
  go_loopg [5, 6] n (fun gg s5 s6 wr => ∃ i j : Nat, i ≤ j ∧ j ≤ n ∧ j - i ≤ gg ∧ s5 = .int .i64 (i : Int) ∧ s6 = .int .i64 (j : Int) ∧ Hid (∀ k, k < i → p k = false) ∧ Hid (j < n → p j = true) ∧ Hid (Below w.heap.size w wr))
  case atStart => exact ⟨0, n, Nat.zero_le _, Nat.le_refl _, by omega, rfl, rfl, (hide fun k hk => absurd hk (Nat.not_lt_zero _)), (hide fun h => absurd h (Nat.lt_irrefl _)), Below.refl _ w⟩
  case round =>
    obtain ⟨i, j, hij, hjn, hg, rfl, rfl, HA, HB, BW⟩ := hrel
    by_cases hlt : i < j
    · have hltz : (i : Int) < (j : Int) := by omega
      obtain ⟨h, hh⟩ : ∃ h, (i + j) / 2 = h := ⟨_, rfl⟩
      have hq : ((i : Int) + (j : Int)) / 2 = (h : Int) := by omega
      have h1 : i ≤ h := by omega
      have h2 : h < j := by omega
      have HC := hide (HP.out h wr (by omega) BW.out)
      cases hr : p h with
      | true =>
        have HR := hide hr
        rw [hr] at HC
        clear hr hh
        go_wp2_with (go_at_fn g; refine HC.out.mono ?_; rintro e w' ⟨rfl, hb'⟩; have HB' := hide hb'; clear hb')
        go_roundg (h - i)
        case measure => omega
        case rel => exact ⟨i, h, h1, by omega, by omega, rfl, rfl, HA, (hide fun _ => HR.out), (hide (below_then BW.out BW.out.size HB'.out))⟩
      | false =>
        have HR := hide hr
        rw [hr] at HC
        clear hr hh
        go_wp2_with (go_at_fn g; refine HC.out.mono ?_; rintro e w' ⟨rfl, hb'⟩; have HB' := hide hb'; clear hb')
        go_roundg (j - (h + 1))
        case measure => omega
        case rel =>
          refine ⟨h + 1, j, by omega, by omega, by omega, by go_num, rfl, (hide fun k hk => ?_), HB, (hide (below_then BW.out BW.out.size HB'.out))⟩
          cases hpk : p k with
          | false => rfl
          | true =>
            have := HM.out k h (by omega) (by omega) hpk
            rw [HR.out] at this; cases this
    · have hltz : ¬ (i : Int) < (j : Int) := by omega
      obtain rfl : i = j := by omega
      go_wp2
      go_ret
      exact ⟨i, rfl, ⟨hjn, HA.out, HB.out⟩, BW.out⟩

/-! ### ring.Succ -/
theorem pair_fst {l : List Pt} (hs : l.Pairwise (fun a b => leP a b = true)) (i j : Nat) (x y : Pt) (hij : i ≤ j) (hx : l[i]? = some x) (hy : l[j]? = some y) : x.1 ≤ y.1 := by
  by_cases e : i = j
  · subst e; rw [hx] at hy; cases hy; exact Int.le_refl _
  · obtain ⟨hi, rfl⟩ := List.getElem?_eq_some_iff.1 hx
    obtain ⟨hj, rfl⟩ := List.getElem?_eq_some_iff.1 hy
    have := (List.pairwise_iff_getElem.1 hs) i j hi hj (by omega)
    rw [leP_iff] at this
    omega

theorem succ1_calls (a : Option Addr) (n cap : Nat) (xs : List Pt) (h : Int) (B C k : Nat) (hk : k < n) (W : World) (hr : Rd 2 ptc W a n xs)
    (hB : W.cell? ⟨B, 0, none⟩ = some (.slice a n cap)) (hC : W.cell? ⟨C, 0, none⟩ = some (.int .u64 h)) :
    Calls Try.prog 90 #[.int .i64 (k : Int), .pointer (some ⟨B, 0, none⟩), .pointer (some ⟨C, 0, none⟩)] W fun e w' => e = .returned (.bool (decide (∃ x, xs[k]? = some x ∧ h ≤ x.1))) ∧ Below W.heap.size W w' := by
  have hn := hr.le
  obtain ⟨b, off, x1, x2, rfl, hx, hb, hc1, hc2⟩ := hr.at_pt k hk
  have e : decide (∃ x, xs[k]? = some x ∧ h ≤ x.1) = decide (h ≤ x1) := by
    rw [decide_eq_decide, hx]
    exact ⟨fun ⟨x, h1, h2⟩ => by cases h1; exact h2, fun h2 => ⟨_, rfl, h2⟩⟩
  rw [e]
  have k0 : (0 : Int) ≤ (k : Int) := by omega
  have kn : (k : Int) < (n : Int) := by omega
  clear e hr hx hc2
  go_enter Try.func90, Try.ntmps90
  go_wp2
  have q1 := fun p : BlwOf W => blw_cell hB p
  have q2 := fun p : BlwOf W => blw_cell hC p
  have q3 := fun p : BlwOf W => blw_cell hc1 p
  refine wp_region_blw (by kernel_rfl) (by kernel_rfl) ?_
  repeat (go_big_quiet_step (fail))
  refine wpQuiet_nil ?_
  intro w2 hw2
  have hb2 := blw_out hw2
  clear hw2 q1 q2 q3 hB hC hc1
  go_wp2
  go_ret
  exact ⟨rfl, hb2⟩

set_option maxHeartbeats 2000000 in
theorem csucc_calls (a : Option Addr) (n cap : Nat) (xs : List Pt) (h : Int) (w : World) (hr : Rd 2 ptc w a n xs) (hs : xs.Pairwise (fun a b => leP a b = true)) (hbig : n < 4294967296) :
    Calls Try.prog 74 #[.slice a n cap, .int .u64 h] w fun e w' => e = .returned (.int .i64 (succP xs h)) ∧ Below w.heap.size w w' := by
  have hn := hr.le
  have eg : ∀ args w, (callFunc 90 args).run Try.prog w = .ok (.enter 90 args) w := enters_of Try.func90 (by kernel_rfl) rfl
  have hb0 : Below w.heap.size w ((w.alloc (.cells #[.slice a n cap] 110)).alloc (.cells #[.int .u64 h] 23)) := ((Below.refl _ _).alloc (Nat.le_refl _) _).alloc (by simp) _
  have hcon := Search_calls n 90 #[.pointer (some ⟨w.heap.size, 0, none⟩), .pointer (some ⟨w.heap.size + 1, 0, none⟩)] (fun k => decide (∃ x, xs[k]? = some x ∧ h ≤ x.1)) hbig _ eg
    (fun k W hk hW => succ1_calls a n cap xs h w.heap.size (w.heap.size + 1) k hk W ((hr.below hb0).below hW) (cell_later hW (by simp)) (cell_later hW (by simp)))
    (fun i j hij hj hpi => by
      simp only [decide_eq_true_eq] at hpi ⊢
      obtain ⟨x, hx, hh⟩ := hpi
      have hj' : j < xs.length := by have := hr.len; omega
      exact ⟨xs[j], List.getElem?_eq_getElem hj', Int.le_trans hh (pair_fst hs i j x _ hij hx (List.getElem?_eq_getElem hj'))⟩)
  have HCON := hide hcon
  have HR := hide hr
  have HB0 := hide hb0
  have HL := hide hr.len
  clear hcon hr hs hb0
  by_cases hz : n = 0
  · subst hz
    have HF := hide (show succP xs h = -1 by rw [List.eq_nil_of_length_eq_zero HL.out.symm]; rfl)
    go_enter Try.func74, Try.ntmps74
    go_wp2
    go_ret
    exact ⟨by rw [HF.out]; rfl, HB0.out⟩
  · have hnz : (0 : Int) < (n : Int) := by omega
    have hnb : ((n : Int) == 0) = false := by simp; omega
    clear hz
    go_enter Try.func74, Try.ntmps74
    go_wp2_with (go_at_call 89; refine HCON.out.mono ?_; rintro e w1 ⟨m, rfl, hm, hb1⟩)
    have HM := hide hm
    have c1 : w1.cell? ⟨w.heap.size, 0, none⟩ = some (.slice a n cap) := cell_later hb1 (by simp)
    have HB1 := hide (below_then HB0.out (by simp; omega) hb1)
    have hmn := hm.1
    have HR1 := hide (HR.out.below HB1.out)
    clear hm hb1
    obtain ⟨q, hq⟩ : ∃ q, (if m < n then m else 0) = q := ⟨_, rfl⟩
    have hqn : q < n := by split at hq <;> omega
    have hqm : (m : Int) % (n : Int) = (q : Int) := by
      split at hq
      · subst hq; exact Int.emod_eq_of_lt (by omega) (by omega)
      · have : m = n := by omega
        subst this; subst hq; simp
    obtain ⟨b, off, x1, x2, rfl, hx, hb, hc1, hc2⟩ := HR1.out.at_pt q hqn
    have hfin : succP xs h = x2 := by
      obtain ⟨g1, g2, g3⟩ := HM.out
      split at hq
      · subst hq
        have := of_decide_eq_true (g3 ‹_›)
        rw [hx] at this
        obtain ⟨y, hy, hh⟩ := this
        cases hy
        exact succ_hit hx hh (fun j y hj hy => fun hle => by have := of_decide_eq_false (g2 j hj); exact this ⟨y, hy, hle⟩)
      · subst hq
        rw [succ_miss (fun j y hj hy hle => by have := of_decide_eq_false (g2 j (by have := HL.out; omega)); exact this ⟨y, hy, hle⟩)]
        cases xs with
        | nil => simp at hx
        | cons y ys => simp at hx; subst hx; rfl
    have HF := hide hfin
    have q0 : (0 : Int) ≤ (q : Int) := by omega
    have qn : (q : Int) < (n : Int) := by omega
    clear hfin hx hq hc1 HM
    have q1 := fun p : BlwOf w1 => blw_cell c1 p
    have q2 := fun p : BlwOf w1 => blw_cell hc2 p
    refine wp_region_blw (by kernel_rfl) (by kernel_rfl) ?_
    repeat (go_big_quiet_step (fail))
    refine wpQuiet_nil ?_
    intro w2 hw2
    have hb2 := blw_out hw2
    clear hw2 q1 q2 hqm c1 hc2
    go_wp2
    go_ret
    exact ⟨by rw [HF.out]; rfl, below_then HB1.out HB1.out.size hb2⟩

theorem Succ_calls (a : Option Addr) (n cap : Nat) (xs : List Pt) (h : Int) (w : World) (hr : Rd 2 ptc w a n xs) (hs : xs.Pairwise (fun a b => leP a b = true)) (hbig : n < 4294967296) :
    Calls Try.prog 51 #[.slice a n cap, .int .u64 h] w fun e w' => e = .returned (.int .i64 (succP xs h)) ∧ Below w.heap.size w w' := by
  have HCON := hide (csucc_calls a n cap xs h w hr hs hbig)
  clear hr hs
  go_enter Try.func51, Try.ntmps51
  go_wp2_with (go_at_call 74; refine HCON.out.mono ?_; rintro e w' ⟨rfl, hb⟩)
  go_ret
  exact ⟨rfl, hb⟩
end Go.Proofs.Ytiaifphidcfddaa
