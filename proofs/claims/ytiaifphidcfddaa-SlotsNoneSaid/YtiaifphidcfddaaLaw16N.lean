/-
  SlotsNone's walk.
-/
import Derived.Test.YtiaifphidcfddaaWorks16
set_option linter.unusedVariables false
set_option linter.unusedSimpArgs false
namespace Go.Proofs.Ytiaifphidcfddaa
open Go.RowKit Go.Shelf

theorem newS_no (n i : Int) (h : i < 0 ∨ n ≤ i ∨ 8 ≤ i) : isS (newS n) i = false := by
  unfold isS newS clS
  rw [List.length_replicate, Bool.and_eq_false_iff, decide_eq_false_iff_not, decide_eq_false_iff_not]
  omega
theorem setS_no {st : List Sl} {i : Int} (h : isS st i = false) (s : Sl) : setS st i s = st := by unfold setS; rw [h]; rfl
theorem fillS_no {st : List Sl} {i : Int} (h : isS st i = false) (xs : List Bk) : fillS st i xs = false := by unfold fillS; rw [h]; rfl
theorem fillT_no {st : List Sl} {i : Int} (h : isS st i = false) (xs : List Bk) : fillT st i xs = st := by unfold fillT; rw [fillS_no h]; rfl
theorem rdyS_no {st : List Sl} {i : Int} (h : isS st i = false) : rdyS st i = none := by unfold rdyS; rw [h]; rfl
theorem pickS_no {st : List Sl} {i : Int} (h : isS st i = false) (hh : Int) : pickS st i hh = (0, false) := by unfold pickS; rw [rdyS_no h]
theorem hasS_no {st : List Sl} {i : Int} (h : isS st i = false) (id : Int) : hasS st i id = (false, false) := by unfold hasS; rw [rdyS_no h]
theorem sizeS_no {st : List Sl} {i : Int} (h : isS st i = false) : sizeS st i = (0, false) := by unfold sizeS; rw [rdyS_no h]

theorem SlotsNone_far (a : Option Addr) (m cap : Nat) (n i id hh : Int) (w : World) (hm : (m : Int) ≤ 9223372036854775807) (hfar : (0 ≤ i ∧ i < n ∧ i < 8) ∨ ((i < 0 ∨ (0 ≤ i ∧ n ≤ i) ∨ (0 ≤ i ∧ i < n ∧ 8 ≤ i)) ∧ (8 : Int) < (m : Int))) :
    Calls Try.prog 5 #[.int .i64 n, .int .i64 i, .int .i64 id, .int .u64 hh, .slice a m cap] w fun e w' => e = .returned (.bool true) ∧ Below w.heap.size w w' := by
  rcases hfar with ⟨h1, h2, h3⟩ | ⟨h1 | ⟨h1, h2⟩ | ⟨h1, h2, h3⟩, h4⟩
  all_goals
    go_enter Try.func5, Try.ntmps5
    go_wp2_with (go_at_call 14; refine (works16_calls _).mono ?_; rintro e w' ⟨rfl, hb⟩; have HB := hide hb; clear hb)
    go_ret
    exact ⟨rfl, HB.out⟩

set_option maxRecDepth 100000 in
set_option maxHeartbeats 8000000 in
theorem SlotsNone_near (a : Option Addr) (m cap : Nat) (n i id hh : Int) (xs : List Bk) (w : World) (hr : Rd 2 bkc w a m xs) (hw : Wf xs) (hm8 : ¬ (8 : Int) < (m : Int)) (hi : i < 0 ∨ (0 ≤ i ∧ n ≤ i) ∨ (0 ≤ i ∧ i < n ∧ 8 ≤ i)) :
    Calls Try.prog 5 #[.int .i64 n, .int .i64 i, .int .i64 id, .int .u64 hh, .slice a m cap] w fun e w' => e = .returned (.bool true) ∧ Below w.heap.size w w' := by
  have hm := hr.le
  have hno := newS_no n i (by omega)
  have HR := hide hr
  have HW := hide hw
  have H1 := hide hno
  have hnb : m < 4294967296 := by omega
  clear hr hw hno
  have hi3 : (i < 0) ∨ (0 ≤ i ∧ n ≤ i ∧ ¬ i < n) ∨ (0 ≤ i ∧ i < n ∧ 8 ≤ i) := by omega
  clear hi
  rcases hi3 with h1 | ⟨h1, h2, h3⟩ | ⟨h1, h2, h3⟩
  all_goals
    go_enter Try.func5, Try.ntmps5
    go_wp2_with fail
    refine (works16_calls _).mono ?_
    rintro e w1 ⟨rfl, hb⟩
    have HB1 := hide hb
    have R_1 := hide (HR.out.below hb)
    have hlt1 := hide (fun (q : Addr) (hq : a = some q) => (R_1.out.2.2.2 q hq).2.1)
    clear hb
    go_wp2_with fail
    refine (New_calls n w1).mono ?_
    rintro e w2 ⟨rfl, hs, hb⟩
    have S2 := hide hs
    have R_2 := hide (R_1.out.below hb)
    have Z2 := hide hb.size
    have B2 := hide hb
    clear hs hb
    generalize newS n = st at H1 S2
    generalize hh0 : w1.heap.size = h at S2 Z2 B2 hlt1 ⊢
    have HBH := hide (fun (q : Addr) (hq : a = some q) => show q.block ≠ h from by have := hlt1.out q hq; omega)
    have HH0 := hide hh0
    clear hh0 hlt1
    go_wp2_with fail
    refine (Begin_calls _ _ _ i _ S2.out).mono ?_
    rintro e w3 ⟨he, hs, hg⟩
    rw [H1.out] at he
    rw [setS_no H1.out] at hs
    subst he
    have S3 := hide hs
    have R_3 := hide (R_2.out.grown hg HBH.out)
    have Z3 := hide (Nat.le_trans Z2.out hg.size)
    have B3 := hide (below_grown B2.out Z2.out hg (Nat.le_refl _))
    clear hs hg
    go_wp2_with fail
    refine (Fill_calls _ _ _ i a m cap xs _ S3.out R_3.out HW.out hnb).mono ?_
    rintro e w4 ⟨he, hs, hg⟩
    rw [fillS_no H1.out] at he
    rw [fillT_no H1.out] at hs
    subst he
    have S4 := hide hs
    have R_4 := hide (R_3.out.grown hg HBH.out)
    have Z4 := hide (Nat.le_trans Z3.out hg.size)
    have B4 := hide (below_grown B3.out Z3.out hg (Nat.le_refl _))
    clear hs hg
    go_wp2_with fail
    refine (Spoil_calls _ _ _ i _ S4.out).mono ?_
    rintro e w5 ⟨he, hs, hg⟩
    rw [H1.out] at he
    rw [setS_no H1.out] at hs
    subst he
    have S5 := hide hs
    have R_5 := hide (R_4.out.grown hg HBH.out)
    have Z5 := hide (Nat.le_trans Z4.out hg.size)
    have B5 := hide (below_grown B4.out Z4.out hg (Nat.le_refl _))
    clear hs hg
    go_wp2_with fail
    refine (Pick_calls _ _ _ i hh _ S5.out).mono ?_
    rintro e w6 ⟨he, hb⟩
    rw [pickS_no H1.out] at he
    subst he
    have S6 := hide (S5.out.below hb)
    have Z6 := hide (Nat.le_trans Z5.out hb.size)
    have B6 := hide (below_then B5.out Z5.out hb)
    clear hb
    go_wp2_with fail
    refine (Has_calls _ _ _ i id _ S6.out).mono ?_
    rintro e w7 ⟨he, hb⟩
    rw [hasS_no H1.out] at he
    subst he
    have S7 := hide (S6.out.below hb)
    have Z7 := hide (Nat.le_trans Z6.out hb.size)
    have B7 := hide (below_then B6.out Z6.out hb)
    clear hb
    go_wp2_with fail
    refine (Size_calls _ _ _ i _ S7.out).mono ?_
    rintro e w8 ⟨he, hb⟩
    rw [sizeS_no H1.out] at he
    subst he
    have S8 := hide (S7.out.below hb)
    have Z8 := hide (Nat.le_trans Z7.out hb.size)
    have B8 := hide (below_then B7.out Z7.out hb)
    clear hb
    go_wp2
    go_ret
    exact ⟨rfl, HB1.out.trans (B8.out.mono (by rw [← HH0.out]; exact HB1.out.size))⟩

theorem SlotsNone_all (a : Option Addr) (m cap : Nat) (n i id hh : Int) (xs : List Bk) (w : World) (hr : Rd 2 bkc w a m xs) (hw : Wf xs) :
    Calls Try.prog 5 #[.int .i64 n, .int .i64 i, .int .i64 id, .int .u64 hh, .slice a m cap] w fun e w' => e = .returned (.bool true) ∧ Below w.heap.size w w' := by
  by_cases h : (0 ≤ i ∧ i < n ∧ i < 8) ∨ ((i < 0 ∨ (0 ≤ i ∧ n ≤ i) ∨ (0 ≤ i ∧ i < n ∧ 8 ≤ i)) ∧ (8 : Int) < (m : Int))
  · exact SlotsNone_far a m cap n i id hh w hr.le h
  · exact SlotsNone_near a m cap n i id hh xs w hr hw (by omega) (by omega)
end Go.Proofs.Ytiaifphidcfddaa
