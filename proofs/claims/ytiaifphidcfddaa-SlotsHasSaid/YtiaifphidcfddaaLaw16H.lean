/-
  SlotsHas' walk.
-/
import Derived.Test.YtiaifphidcfddaaWorks16
set_option linter.unusedVariables false
set_option linter.unusedSimpArgs false
namespace Go.Proofs.Ytiaifphidcfddaa
open Go.RowKit Go.Shelf

theorem find_ge (xs : List Bk) (id : Int) : decide (0 ≤ find xs id) = xs.any (fun x => x.1 == id) := idx_ge _ _
theorem find_pick {xs : List Bk} (hv : Vp xs) (h : Int) : decide (0 ≤ find xs (succP (ofP xs) h)) = decide (0 < xs.length) := by
  rw [find_ge]
  by_cases e : xs = []
  · subst e; rfl
  · obtain ⟨b, hb, hp⟩ := pick_mem hv h e
    rw [hp, decide_eq_true (List.length_pos_iff.2 e)]
    exact List.any_eq_true.2 ⟨b, hb, by simp⟩

set_option maxRecDepth 100000 in
set_option maxHeartbeats 8000000 in
theorem SlotsHas_all (a : Option Addr) (n cap : Nat) (id hh : Int) (xs : List Bk) (w : World) (hr : Rd 2 bkc w a n xs) (hw : Wf xs) :
    Calls Try.prog 4 #[.slice a n cap, .int .i64 id, .int .u64 hh] w fun e w' => e = .returned (.bool true) ∧ Below w.heap.size w w' := by
  have hn := hr.le
  by_cases hbig : 8 < n
  · have hz : (8 : Int) < (n : Int) := by omega
    clear hr hw
    go_enter Try.func4, Try.ntmps4
    go_wp2_with (go_at_call 14; refine (works16_calls _).mono ?_; rintro e w' ⟨rfl, hb⟩; have HB := hide hb; clear hb)
    go_ret
    exact ⟨rfl, HB.out⟩
  · have hz : ¬ (8 : Int) < (n : Int) := by omega
    have HR := hide hr
    have HW := hide hw
    have HL := hide hr.len
    have hnb : n < 4294967296 := by omega
    clear hr hw
    rcases check_01 xs with hk | hk
    · have HK := hide hk
      obtain ⟨q, hq⟩ : ∃ q, decide (0 < n) = q := ⟨_, rfl⟩
      have hpick := find_pick (vp_of_check hk) hh
      rw [← HL.out, hq] at hpick
      have HP := hide hpick
      have hq2 : decide ((0 : Int) < (n : Int)) = q := by rw [← hq]; simp
      clear hk hpick
      go_enter Try.func4, Try.ntmps4
      go_wp2_with fail
      refine (works16_calls _).mono ?_
      rintro e w1 ⟨rfl, hb⟩
      have HB1 := hide hb
      have R_1 := hide (HR.out.below hb)
      clear hb
      go_wp2_with fail
      refine (Check_calls a n cap xs _ R_1.out HW.out hnb).mono ?_
      rintro e w2 ⟨he, hb⟩
      rw [HK.out] at he
      subst he
      have HB2 := hide (below_then HB1.out HB1.out.size hb)
      have R_2 := hide (R_1.out.below hb)
      have hlt2 := hide (fun (q : Addr) (hq : a = some q) => (R_2.out.2.2.2 q hq).2.1)
      clear hb
      go_wp2_with fail
      refine (New_calls 1 w2).mono ?_
      rintro e w3 ⟨rfl, hs, hb⟩
      have S3 := hide (show SlAt w3 (w2.heap.size + 1) w2.heap.size [.spoilt] from hs)
      have R_3 := hide (R_2.out.below hb)
      have Z3 := hide hb.size
      have B3 := hide hb
      clear hs hb
      generalize hh0 : w2.heap.size = h at S3 Z3 B3 hlt2 ⊢
      have HBH := hide (fun (q : Addr) (hq : a = some q) => show q.block ≠ h from by have := hlt2.out q hq; omega)
      have HH0 := hide hh0
      clear hh0 hlt2
      go_wp2_with fail
      refine (Begin_calls _ _ _ 0 _ S3.out).mono ?_
      rintro e w4 ⟨he, hs, hg⟩
      rw [show isS [.spoilt] 0 = true from rfl] at he
      subst he
      have S4 := hide (show SlAt w4 (h + 1) h [.building] from hs)
      have R_4 := hide (R_3.out.grown hg HBH.out)
      have Z4 := hide (Nat.le_trans Z3.out hg.size)
      have B4 := hide (below_grown B3.out Z3.out hg (Nat.le_refl _))
      clear hs hg
      go_wp2_with fail
      have f1 : fillS [.building] 0 xs = true := by unfold fillS; rw [HK.out]; rfl
      have f2 : fillT [.building] 0 xs = [.ready xs] := by unfold fillT; rw [f1]; rfl
      refine (Fill_calls _ _ _ 0 a n cap xs _ S4.out R_4.out HW.out hnb).mono ?_
      rintro e w5 ⟨he, hs, hg⟩
      rw [f1] at he
      rw [f2] at hs
      subst he
      have S5 := hide hs
      have R_5 := hide (R_4.out.grown hg HBH.out)
      have Z5 := hide (Nat.le_trans Z4.out hg.size)
      have B5 := hide (below_grown B4.out Z4.out hg (Nat.le_refl _))
      clear f1 f2 hs hg
      obtain ⟨fd, hfd⟩ : ∃ fd, find xs id = fd := ⟨_, rfl⟩
      have HFD := hide hfd
      clear hfd
      go_wp2_with fail
      refine (Has_calls _ _ _ 0 id _ S5.out).mono ?_
      rintro e w6 ⟨he, hb⟩
      rw [show hasS [.ready xs] 0 id = (decide (0 ≤ find xs id), true) from rfl, HFD.out] at he
      subst he
      have S6 := hide (S5.out.below hb)
      have R_6 := hide (R_5.out.below hb)
      have Z6 := hide (Nat.le_trans Z5.out hb.size)
      have B6 := hide (below_then B5.out Z5.out hb)
      clear hb
      go_wp2_with fail
      obtain ⟨tb, hto⟩ : ∃ tb, succP (ofP xs) hh = tb := ⟨_, rfl⟩
      have HP2 := hide (show decide (0 ≤ find xs tb) = q by rw [← hto]; exact HP.out)
      have HTO := hide hto
      clear hto
      refine (Pick_calls _ _ _ 0 hh _ S6.out).mono ?_
      rintro e w7 ⟨he, hb⟩
      rw [show pickS [.ready xs] 0 hh = (succP (ofP xs) hh, true) from rfl, HTO.out] at he
      subst he
      have S7 := hide (S6.out.below hb)
      have R_7 := hide (R_6.out.below hb)
      have Z7 := hide (Nat.le_trans Z6.out hb.size)
      have B7 := hide (below_then B6.out Z6.out hb)
      clear hb
      go_wp2_with fail
      refine (Has_calls _ _ _ 0 tb _ S7.out).mono ?_
      rintro e w8 ⟨he, hb⟩
      rw [show hasS [.ready xs] 0 tb = (decide (0 ≤ find xs tb), true) from rfl, HP2.out] at he
      subst he
      have S8 := hide (S7.out.below hb)
      have R_8 := hide (R_7.out.below hb)
      have Z8 := hide (Nat.le_trans Z7.out hb.size)
      have B8 := hide (below_then B7.out Z7.out hb)
      clear hb
      go_wp2_with fail
      refine (Find_calls a n cap xs id _ R_8.out).mono ?_
      rintro e w9 ⟨he, hb⟩
      rw [HFD.out] at he
      subst he
      have S9 := hide (S8.out.below hb)
      have R_9 := hide (R_8.out.below hb)
      have Z9 := hide (Nat.le_trans Z8.out hb.size)
      have B9 := hide (below_then B8.out Z8.out hb)
      clear hb
      clear HP HP2 HTO HK
      cases q
      all_goals
        go_wp2
        go_ret
        exact ⟨rfl, HB2.out.trans (B9.out.mono (by rw [← HH0.out]; exact HB2.out.size))⟩
    · have HK := hide hk
      clear hk
      go_enter Try.func4, Try.ntmps4
      go_wp2_with fail
      refine (works16_calls _).mono ?_
      rintro e w1 ⟨rfl, hb⟩
      have HB1 := hide hb
      have R_1 := hide (HR.out.below hb)
      clear hb
      go_wp2_with fail
      refine (Check_calls a n cap xs _ R_1.out HW.out hnb).mono ?_
      rintro e w2 ⟨he, hb⟩
      rw [HK.out] at he
      subst he
      have HB2 := hide (below_then HB1.out HB1.out.size hb)
      clear hb
      go_wp2
      go_ret
      exact ⟨rfl, HB2.out⟩
end Go.Proofs.Ytiaifphidcfddaa
