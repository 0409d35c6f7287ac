/-
  The reference's Find and Check of layer 8.
-/
import Derived.Test.YtiaifphidcfddaaPool2
import Derived.Deep.DeepCutAuto
set_option linter.unusedVariables false
set_option linter.unusedSimpArgs false
namespace Go.Proofs.Ytiaifphidcfddaa
open Go.RowKit Go.Shelf

set_option maxHeartbeats 1000000 in
theorem RFind_calls (a : Option Addr) (n cap : Nat) (xs : List Bk) (id : Int) (w : World) (hr : Rd 2 bkc w a n xs) :
    Calls Try.prog 44 #[.slice a n cap, .int .i64 id] w fun e w' => e = .returned (.int .i64 (find xs id)) ∧ Below w.heap.size w w' := by
  have hn := hr.le
  have HL := hide hr.len
  have HR := hide hr
  clear hr
  go_enter Try.func44, Try.ntmps44
  go_wp2
  go_loopg [5] n (fun gg s5 wr => ∃ kk : Nat, kk ≤ n ∧ n - kk ≤ gg ∧ s5 = .int .i64 kk ∧ Hid (Below w.heap.size w wr) ∧ Hid (∀ j x, j < kk → xs[j]? = some x → (x.1 == id) = false))
  case atStart => exact ⟨0, Nat.zero_le _, by omega, rfl, Below.refl _ w, fun j x hj => absurd hj (Nat.not_lt_zero _)⟩
  case round =>
    obtain ⟨kk, hkk, hg, rfl, BW, A⟩ := hrel
    by_cases hlt : kk < n
    · have hltz : (kk : Int) < (n : Int) := by omega
      obtain ⟨b, off, x1, x2, ha, hx, hb, hc1, hc2⟩ := (HR.out.below BW.out).at_bk kk hlt
      have HX := hide hx
      clear hx hc2
      subst ha
      cases hq : (x1 == id) with
      | true =>
        go_wp2
        go_ret
        exact ⟨by unfold find; rw [idx_hit HX.out hq A.out]; rfl, BW.out⟩
      | false =>
        have HQ := hide hq
        go_wp2
        go_roundg (n - (kk + 1))
        case measure => omega
        case rel =>
          refine ⟨kk + 1, by omega, by omega, by go_num, BW, (show Hid _ from fun j x hj hxj => ?_)⟩
          by_cases e : j = kk
          · subst e
            rw [HX.out] at hxj
            cases hxj
            exact HQ.out
          · exact A.out j x (by omega) hxj
    · have hltz : ¬ (kk : Int) < (n : Int) := by omega
      have : kk = n := by omega
      subst this
      go_wp2
      go_ret
      exact ⟨by unfold find; rw [idx_miss (fun j y hj => A.out j y (by have := HL.out; omega))]; rfl, BW.out⟩

/-! ### Check -/
theorem find_at {xs : List Bk} {k : Nat} {x : Bk} (hx : xs[k]? = some x) : (find xs x.1 == (k : Int)) = !seen (xs.take k) x.1 := by
  obtain ⟨hk, hxk⟩ := List.getElem?_eq_some_iff.1 hx
  cases hs : seen (xs.take k) x.1 with
  | false =>
    have : find xs x.1 = k := by
      unfold find
      refine idx_hit hx (by simp) (fun j y hj hy => ?_)
      cases hq : (y.1 == x.1) with
      | false => rfl
      | true =>
        have : seen (xs.take k) x.1 = true := by
          unfold seen
          rw [List.any_eq_true]
          obtain ⟨hjl, hjy⟩ := List.getElem?_eq_some_iff.1 hy
          exact ⟨y, by rw [List.mem_iff_getElem]; exact ⟨j, by simp; omega, by simp [hjy]⟩, hq⟩
        rw [this] at hs; cases hs
    simp [this]
  | true =>
    have : find xs x.1 ≠ k := by
      intro he
      unfold seen at hs
      rw [List.any_eq_true] at hs
      obtain ⟨y, hy, hyx⟩ := hs
      obtain ⟨j, hj, rfl⟩ := List.getElem_of_mem hy
      rw [List.length_take] at hj
      rw [List.getElem_take] at hyx
      unfold find idx at he
      cases hf : xs.findIdx? (fun z => z.1 == x.1) with
      | none => rw [hf] at he; simp at he
      | some i =>
        rw [hf] at he
        have h9 : (i : Int) = (k : Int) := by simpa using he
        have hik : i = k := by omega
        subst hik
        have := (List.findIdx?_eq_some_iff_getElem.1 hf).2.2 j (by omega)
        simp [hyx] at this
    simp [this]

theorem bad_iff (x1 x2 : Int) : bad (x1, x2) = false ↔ 1 ≤ x1 ∧ x1 ≤ 65535 ∧ 1 ≤ x2 ∧ x2 ≤ 16 := by
  simp only [bad, List.any_cons, List.any_nil, bad2, Bool.or_false, Bool.or_eq_false_iff, decide_eq_false_iff_not]
  omega

set_option maxRecDepth 100000 in
set_option maxHeartbeats 2000000 in
theorem RCheck_calls (a : Option Addr) (n cap : Nat) (xs : List Bk) (w : World) (hr : Rd 2 bkc w a n xs) :
    Calls Try.prog 43 #[.slice a n cap] w fun e w' => e = .returned (.int .i64 (check xs)) ∧ Below w.heap.size w w' := by
  have hn := hr.le
  have HL := hide hr.len
  have HR := hide hr
  clear hr
  by_cases h32 : n ≤ 32
  · have h32z : ¬ (32 : Int) < (n : Int) := by omega
    have HC : Hid (∀ r, chk xs = r → check xs = if r then 0 else 10) := hide (fun r h => by unfold check; rw [h]; have := HL.out; cases r <;> simp; omega)
    go_enter Try.func43, Try.ntmps43
    go_wp2
    go_loopg [3] n (fun gg s3 wr => ∃ (kk : Nat), kk ≤ n ∧ n - kk ≤ gg ∧ s3 = .int .i64 kk ∧ Hid (Below w.heap.size w wr) ∧ Hid (∀ j x, j < kk → xs[j]? = some x → seen (xs.take j) x.1 = false ∧ bad x = false))
    case atStart => exact ⟨0, Nat.zero_le _, by omega, rfl, Below.refl _ w, fun j x hj => absurd hj (Nat.not_lt_zero _)⟩
    case round =>
      obtain ⟨kk, hkk, hg, rfl, BW, A⟩ := hrel
      by_cases hlt : kk < n
      · have hltz : (kk : Int) < (n : Int) := by omega
        obtain ⟨b, off, x1, x2, ha, hx, hb, hc1, hc2⟩ := (HR.out.below BW.out).at_bk kk hlt
        have HX := hide hx
        have hfa := find_at hx
        have HFA := hide hfa
        clear hx hfa
        subst ha
        have HRW := hide ((HR.out.below BW.out).below ((Below.refl wr.heap.size wr).alloc (Nat.le_refl _) (.cells #[.int .i64 x1, .int .i64 x2] 56)))
        have hbad : (bad (x1, x2) = false ∧ 1 ≤ x1 ∧ x1 ≤ 65535 ∧ 1 ≤ x2 ∧ x2 ≤ 16) ∨ (bad (x1, x2) = true ∧ ¬ (1 ≤ x1 ∧ x1 ≤ 65535 ∧ 1 ≤ x2 ∧ x2 ≤ 16)) := by
          have := bad_iff x1 x2
          cases hb : bad (x1, x2) with
          | false => exact .inl ⟨rfl, this.1 hb⟩
          | true => exact .inr ⟨rfl, fun h => by rw [this.2 h] at hb; cases hb⟩
        rcases hbad with ⟨h1, h2, h3, h4, h5⟩ | ⟨h1, h2⟩
        · have HB := hide h1
          clear h1
          obtain ⟨f, hf⟩ : ∃ f, f = find xs x1 := ⟨_, rfl⟩
          have HF := hide hf
          clear hf
          cases hq : (f != (kk : Int)) with
          | true =>
            have hsn := hide (show seen (xs.take kk) x1 = true by
              have h6 := HFA.out
              rw [← HF.out] at h6
              have h7 : (f == (kk : Int)) = false := by simpa using hq
              rw [h7] at h6
              simpa using h6)
            go_wp2_with (go_at_call 44; refine (RFind_calls _ _ _ _ _ _ HRW.out).mono ?_; rintro e w1 ⟨rfl, hb2⟩; rw [← HF.out]; have HB2 := hide hb2; clear hb2)
            go_ret
            refine ⟨?_, below_then BW.out BW.out.size (((Below.refl wr.heap.size wr).alloc (Nat.le_refl _) _).trans (HB2.out.mono (by simp)))⟩
            rw [HC.out false ?_]
            · rfl
            · cases hc : chk xs with
              | false => rfl
              | true =>
                unfold chk at hc
                rw [List.all_eq_true] at hc
                have := hc kk (List.mem_range.2 (by have := HL.out; omega))
                rw [HX.out] at this
                simp [hsn.out] at this
          | false =>
            have hsn := hide (show seen (xs.take kk) x1 = false by
              have h6 := HFA.out
              rw [← HF.out] at h6
              have h7 : (f == (kk : Int)) = true := by simpa using hq
              rw [h7] at h6
              simpa using h6)
            go_wp2_with (go_at_call 44; refine (RFind_calls _ _ _ _ _ _ HRW.out).mono ?_; rintro e w1 ⟨rfl, hb2⟩; rw [← HF.out]; have HB2 := hide hb2; clear hb2)
            go_roundg (n - (kk + 1))
            case measure => omega
            case rel =>
              refine ⟨kk + 1, by omega, by omega, by go_num, (hide (below_then BW.out BW.out.size (((Below.refl wr.heap.size wr).alloc (Nat.le_refl _) _).trans (HB2.out.mono (by simp))))), (hide (fun j x hj hxj => ?_))⟩
              by_cases e : j = kk
              · subst e
                rw [HX.out] at hxj
                cases hxj
                exact ⟨hsn.out, HB.out⟩
              · exact A.out j x (by omega) hxj
        · have HB := hide h1
          clear h1
          have hfin : check xs = 10 := by
            rw [HC.out false ?_]
            · rfl
            · cases hc : chk xs with
              | false => rfl
              | true =>
                unfold chk at hc
                rw [List.all_eq_true] at hc
                have := hc kk (List.mem_range.2 (by have := HL.out; omega))
                rw [HX.out] at this
                simp [HB.out] at this
          have HFIN := hide hfin
          clear hfin
          have h6 : x1 < 1 ∨ (1 ≤ x1 ∧ 65535 < x1) ∨ (1 ≤ x1 ∧ x1 ≤ 65535 ∧ x2 < 1) ∨ (1 ≤ x1 ∧ x1 ≤ 65535 ∧ 1 ≤ x2 ∧ 16 < x2) := by omega
          rcases h6 with h6 | ⟨h6, h7⟩ | ⟨h6, h7, h8⟩ | ⟨h6, h7, h8, h9⟩
          all_goals
            go_wp2
            go_ret
            exact ⟨by rw [HFIN.out]; rfl, below_then BW.out BW.out.size ((Below.refl wr.heap.size wr).alloc (Nat.le_refl _) _)⟩
      · have hltz : ¬ (kk : Int) < (n : Int) := by omega
        have : kk = n := by omega
        subst this
        have hfin : check xs = 0 := by
          rw [HC.out true ?_]
          · rfl
          · unfold chk
            rw [List.all_eq_true]
            intro j hj
            rw [List.mem_range] at hj
            rw [List.getElem?_eq_getElem hj]
            have := A.out j _ (by have := HL.out; omega) (List.getElem?_eq_getElem hj)
            simp [this.1, this.2]
        have HFIN := hide hfin
        clear hfin
        go_wp2
        go_ret
        exact ⟨by rw [HFIN.out]; rfl, BW.out⟩
  · have h32z : (32 : Int) < (n : Int) := by omega
    have hfin : check xs = 10 := by
      unfold check
      have : decide (xs.length ≤ 32) = false := decide_eq_false (by have := HL.out; omega)
      rw [this]; simp
    have HFIN := hide hfin
    clear hfin
    go_enter Try.func43, Try.ntmps43
    go_wp2
    go_ret
    exact ⟨by rw [HFIN.out]; rfl, Below.refl _ _⟩
end Go.Proofs.Ytiaifphidcfddaa
