/-
  SlotsAnew's walk.
-/
import Derived.Test.YtiaifphidcfddaaWorks16
set_option linter.unusedVariables false
set_option linter.unusedSimpArgs false
namespace Go.Proofs.Ytiaifphidcfddaa
open Go.RowKit Go.Shelf

theorem RPick_calls (a : Option Addr) (n cap : Nat) (xs : List Bk) (h : Int) (w : World) (hr : Rd 2 bkc w a n xs) (hv : Vp xs) (hbig : n ≤ 65536) :
    Calls Try.prog 31 #[.slice a n cap, .int .u64 h] w fun e w' => e = .returned (.int .i64 (succP (ofP xs) h)) ∧ Below w.heap.size w w' := by
  have HL := hide (show (ofP xs).length < 4294967296 by show (srt (ptsU xs)).length < _; rw [srt_len]; have := ptsU_len xs hv; have := hr.len; omega)
  have HC := hide (Of_calls a n cap xs w hr hv hbig)
  clear hr hv
  go_enter Try.func31, Try.ntmps31
  go_wp2_with fail
  refine HC.out.mono ?_
  rintro e w1 ⟨a1, c1, rfl, r1, hb1, -⟩
  have HB1 := hide hb1
  have HC2 := hide (Succ_calls a1 _ c1 (ofP xs) h w1 r1 (srt_pw _) HL.out)
  clear r1 hb1 HC
  go_wp2_with fail
  refine HC2.out.mono ?_
  rintro e w2 ⟨rfl, hb2⟩
  have HB2 := hide hb2
  clear hb2
  go_wp2
  go_ret
  exact ⟨rfl, below_then HB1.out HB1.out.size HB2.out⟩

theorem SlotsAnew_far (a b : Option Addr) (n cap m cap2 : Nat) (id hh : Int) (sp : Bool) (w : World) (hn : (n : Int) ≤ 9223372036854775807) (hm : (m : Int) ≤ 9223372036854775807) (hfar : (8 : Int) < (n : Int) ∨ (¬ (8 : Int) < (n : Int) ∧ (8 : Int) < (m : Int))) :
    Calls Try.prog 7 #[.slice a n cap, .slice b m cap2, .int .i64 id, .int .u64 hh, .bool sp] w fun e w' => e = .returned (.bool true) ∧ Below w.heap.size w w' := by
  rcases hfar with h1 | ⟨h1, h2⟩
  all_goals
    go_enter Try.func7, Try.ntmps7
    go_wp2_with (go_at_call 14; refine (works16_calls _).mono ?_; rintro e w' ⟨rfl, hb⟩; have HB := hide hb; clear hb)
    go_ret
    exact ⟨rfl, HB.out⟩

theorem SlotsAnew_bad (a b : Option Addr) (n cap m cap2 : Nat) (id hh : Int) (sp : Bool) (ys : List Bk) (w : World) (hr2 : Rd 2 bkc w b m ys) (hw2 : Wf ys) (hn : ¬ (8 : Int) < (n : Int)) (hm : ¬ (8 : Int) < (m : Int)) (hk : check ys = 10) :
    Calls Try.prog 7 #[.slice a n cap, .slice b m cap2, .int .i64 id, .int .u64 hh, .bool sp] w fun e w' => e = .returned (.bool true) ∧ Below w.heap.size w w' := by
  have HR2 := hide hr2
  have HW2 := hide hw2
  have HK := hide hk
  have hmb : m < 4294967296 := by omega
  clear hr2 hw2 hk
  go_enter Try.func7, Try.ntmps7
  go_wp2_with fail
  refine (works16_calls _).mono ?_
  rintro e w1 ⟨rfl, hb⟩
  have HB1 := hide hb
  have R_1 := hide (HR2.out.below hb)
  clear hb
  go_wp2_with fail
  refine (Check_calls b m cap2 ys _ R_1.out HW2.out hmb).mono ?_
  rintro e w2 ⟨he, hb⟩
  rw [HK.out] at he
  subst he
  have HB2 := hide (below_then HB1.out HB1.out.size hb)
  clear hb
  go_wp2
  go_ret
  exact ⟨rfl, HB2.out⟩

set_option maxRecDepth 100000 in
set_option maxHeartbeats 8000000 in
theorem SlotsAnew_gt (a b : Option Addr) (n cap m cap2 : Nat) (id hh : Int) (xs ys : List Bk) (w : World) (hr : Rd 2 bkc w a n xs) (hw : Wf xs) (hr2 : Rd 2 bkc w b m ys) (hw2 : Wf ys) (hn : ¬ (8 : Int) < (n : Int)) (hm : ¬ (8 : Int) < (m : Int)) (hk2 : check ys = 0) (hk : check xs = 0) :
    Calls Try.prog 7 #[.slice a n cap, .slice b m cap2, .int .i64 id, .int .u64 hh, .bool true] w fun e w' => e = .returned (.bool true) ∧ Below w.heap.size w w' := by
  have HR := hide hr
  have HW := hide hw
  have HR2 := hide hr2
  have HW2 := hide hw2
  have HK := hide hk
  have HK2 := hide hk2
  have hnb : n < 4294967296 := by omega
  have hmb : m < 4294967296 := by omega
  have HNB := hide (show n ≤ 65536 by omega)
  have HMB := hide (show m ≤ 65536 by omega)
  clear hr hw hr2 hw2 hk hk2
  go_enter Try.func7, Try.ntmps7
  go_wp2_with fail
  refine (works16_calls _).mono ?_
  rintro e w1 ⟨rfl, hb⟩
  have HB1 := hide hb
  have Rp_1 := hide (HR.out.below hb)
  have Rq_1 := hide (HR2.out.below hb)
  clear hb
  go_wp2_with fail
  refine (Check_calls b m cap2 ys _ Rq_1.out HW2.out hmb).mono ?_
  rintro e w2 ⟨he, hb⟩
  rw [HK2.out] at he
  subst he
  have HB2 := hide (below_then HB1.out HB1.out.size hb)
  have Rp_2 := hide (Rp_1.out.below hb)
  have Rq_2 := hide (Rq_1.out.below hb)
  have hltp := hide (fun (q : Addr) (hq : a = some q) (h0 : 0 < n) => (Rp_2.out.2.2.2 q hq h0).2.1)
  have hltq := hide (fun (q : Addr) (hq : b = some q) (h0 : 0 < m) => (Rq_2.out.2.2.2 q hq h0).2.1)
  clear hb
  go_wp2_with fail
  refine (New_calls 2 w2).mono ?_
  rintro e w3 ⟨rfl, hs, hb⟩
  have S3 := hide (show SlAt w3 (w2.heap.size + 1) w2.heap.size [.spoilt, .spoilt] from hs)
  have Rp_3 := hide (Rp_2.out.below hb)
  have Rq_3 := hide (Rq_2.out.below hb)
  have Z3 := hide hb.size
  have B3 := hide hb
  clear hs hb
  generalize hh0 : w2.heap.size = h at S3 Z3 B3 hltp hltq ⊢
  have HBHp := hide (fun (q : Addr) (hq : a = some q) (h0 : 0 < n) => show q.block ≠ h from by have := hltp.out q hq h0; omega)
  have HBHq := hide (fun (q : Addr) (hq : b = some q) (h0 : 0 < m) => show q.block ≠ h from by have := hltq.out q hq h0; omega)
  have HH0 := hide hh0
  clear hh0 hltp hltq
  go_wp2_with fail
  refine wp_loop_rounds 3 ?_
  rw [rounds_succ]
  go_wp2_with fail
  refine (Begin_calls _ _ _ 0 _ S3.out).mono ?_
  rintro e w4 ⟨he, hs, hg⟩
  rw [show isS [.spoilt, .spoilt] 0 = true from rfl] at he
  subst he
  have S4 := hide (show SlAt w4 (h + 1) h [.building, .spoilt] from hs)
  have Rp_4 := hide (Rp_3.out.grown hg HBHp.out)
  have Rq_4 := hide (Rq_3.out.grown hg HBHq.out)
  have Z4 := hide (Nat.le_trans Z3.out hg.size)
  have B4 := hide (below_grown B3.out Z3.out hg (Nat.le_refl _))
  clear hs hg
  go_wp2_with fail
  have f1 : fillS [.building, .spoilt] 0 xs = true := by unfold fillS; rw [HK.out]; rfl
  have f2 : fillT [.building, .spoilt] 0 xs = [.ready xs, .spoilt] := by unfold fillT; rw [f1]; rfl
  refine (Fill_calls _ _ _ 0 a n cap xs _ S4.out Rp_4.out HW.out hnb).mono ?_
  rintro e w5 ⟨he, hs, hg⟩
  rw [f1] at he
  rw [f2] at hs
  subst he
  have S5 := hide hs
  have Rp_5 := hide (Rp_4.out.grown hg HBHp.out)
  have Rq_5 := hide (Rq_4.out.grown hg HBHq.out)
  have Z5 := hide (Nat.le_trans Z4.out hg.size)
  have B5 := hide (below_grown B4.out Z4.out hg (Nat.le_refl _))
  clear f1 f2 hs hg
  go_wp2_with fail
  rw [rounds_succ]
  go_wp2_with fail
  refine (Begin_calls _ _ _ 1 _ S5.out).mono ?_
  rintro e w6 ⟨he, hs, hg⟩
  rw [show isS [.ready xs, .spoilt] 1 = true from rfl] at he
  subst he
  have S6 := hide (show SlAt w6 (h + 1) h [.ready xs, .building] from hs)
  have Rp_6 := hide (Rp_5.out.grown hg HBHp.out)
  have Rq_6 := hide (Rq_5.out.grown hg HBHq.out)
  have Z6 := hide (Nat.le_trans Z5.out hg.size)
  have B6 := hide (below_grown B5.out Z5.out hg (Nat.le_refl _))
  clear hs hg
  go_wp2_with fail
  have f1 : fillS [.ready xs, .building] 1 xs = true := by unfold fillS; rw [HK.out]; rfl
  have f2 : fillT [.ready xs, .building] 1 xs = [.ready xs, .ready xs] := by unfold fillT; rw [f1]; rfl
  refine (Fill_calls _ _ _ 1 a n cap xs _ S6.out Rp_6.out HW.out hnb).mono ?_
  rintro e w7 ⟨he, hs, hg⟩
  rw [f1] at he
  rw [f2] at hs
  subst he
  have S7 := hide hs
  have Rp_7 := hide (Rp_6.out.grown hg HBHp.out)
  have Rq_7 := hide (Rq_6.out.grown hg HBHq.out)
  have Z7 := hide (Nat.le_trans Z6.out hg.size)
  have B7 := hide (below_grown B6.out Z6.out hg (Nat.le_refl _))
  clear f1 f2 hs hg
  go_wp2_with fail
  rw [rounds_succ]
  go_wp2_with fail
  refine (Spoil_calls _ _ _ 1 _ S7.out).mono ?_
  rintro e w8 ⟨he, hs, hg⟩
  rw [show isS [.ready xs, .ready xs] 1 = true from rfl] at he
  subst he
  have S8 := hide (show SlAt w8 (h + 1) h [.ready xs, .spoilt] from hs)
  have Rp_8 := hide (Rp_7.out.grown hg HBHp.out)
  have Rq_8 := hide (Rq_7.out.grown hg HBHq.out)
  have Z8 := hide (Nat.le_trans Z7.out hg.size)
  have B8 := hide (below_grown B7.out Z7.out hg (Nat.le_refl _))
  clear hs hg
  go_wp2_with fail
  refine (Begin_calls _ _ _ 1 _ S8.out).mono ?_
  rintro e w9 ⟨he, hs, hg⟩
  rw [show isS [.ready xs, .spoilt] 1 = true from rfl] at he
  subst he
  have S9 := hide (show SlAt w9 (h + 1) h [.ready xs, .building] from hs)
  have Rp_9 := hide (Rp_8.out.grown hg HBHp.out)
  have Rq_9 := hide (Rq_8.out.grown hg HBHq.out)
  have Z9 := hide (Nat.le_trans Z8.out hg.size)
  have B9 := hide (below_grown B8.out Z8.out hg (Nat.le_refl _))
  clear hs hg
  go_wp2_with fail
  have f1 : fillS [.ready xs, .building] 1 ys = true := by unfold fillS; rw [HK2.out]; rfl
  have f2 : fillT [.ready xs, .building] 1 ys = [.ready xs, .ready ys] := by unfold fillT; rw [f1]; rfl
  refine (Fill_calls _ _ _ 1 b m cap2 ys _ S9.out Rq_9.out HW2.out hmb).mono ?_
  rintro e w10 ⟨he, hs, hg⟩
  rw [f1] at he
  rw [f2] at hs
  subst he
  have S10 := hide hs
  have Rp_10 := hide (Rp_9.out.grown hg HBHp.out)
  have Rq_10 := hide (Rq_9.out.grown hg HBHq.out)
  have Z10 := hide (Nat.le_trans Z9.out hg.size)
  have B10 := hide (below_grown B9.out Z9.out hg (Nat.le_refl _))
  clear f1 f2 hs hg
  obtain ⟨tb, hto⟩ : ∃ tb, succP (ofP ys) hh = tb := ⟨_, rfl⟩
  have HTO := hide hto
  clear hto
  obtain ⟨fd, hfd⟩ : ∃ fd, find ys id = fd := ⟨_, rfl⟩
  have HFD := hide hfd
  clear hfd
  go_wp2_with fail
  refine (Pick_calls _ _ _ 1 hh _ S10.out).mono ?_
  rintro e w11 ⟨he, hb⟩
  rw [show pickS [.ready xs, .ready ys] 1 hh = (succP (ofP ys) hh, true) from rfl, HTO.out] at he
  subst he
  have S11 := hide (S10.out.below hb)
  have Rp_11 := hide (Rp_10.out.below hb)
  have Rq_11 := hide (Rq_10.out.below hb)
  have Z11 := hide (Nat.le_trans Z10.out hb.size)
  have B11 := hide (below_then B10.out Z10.out hb)
  clear hb
  go_wp2_with fail
  refine (Has_calls _ _ _ 1 id _ S11.out).mono ?_
  rintro e w12 ⟨he, hb⟩
  rw [show hasS [.ready xs, .ready ys] 1 id = (decide (0 ≤ find ys id), true) from rfl, HFD.out] at he
  subst he
  have S12 := hide (S11.out.below hb)
  have Rp_12 := hide (Rp_11.out.below hb)
  have Rq_12 := hide (Rq_11.out.below hb)
  have Z12 := hide (Nat.le_trans Z11.out hb.size)
  have B12 := hide (below_then B11.out Z11.out hb)
  clear hb
  obtain ⟨ta, hta⟩ : ∃ ta, succP (ofP xs) hh = ta := ⟨_, rfl⟩
  have HTA := hide hta
  clear hta
  go_wp2_with fail
  refine (Pick_calls _ _ _ 0 hh _ S12.out).mono ?_
  rintro e w13 ⟨he, hb⟩
  rw [show pickS [.ready xs, .ready ys] 0 hh = (succP (ofP xs) hh, true) from rfl, HTA.out] at he
  subst he
  have S13 := hide (S12.out.below hb)
  have Rp_13 := hide (Rp_12.out.below hb)
  have Rq_13 := hide (Rq_12.out.below hb)
  have Z13 := hide (Nat.le_trans Z12.out hb.size)
  have B13 := hide (below_then B12.out Z12.out hb)
  clear hb
  go_wp2_with fail
  refine (Check_calls a n cap xs _ Rp_13.out HW.out hnb).mono ?_
  rintro e w14 ⟨he, hb⟩
  rw [HK.out] at he
  subst he
  have S14 := hide (S13.out.below hb)
  have Rp_14 := hide (Rp_13.out.below hb)
  have Rq_14 := hide (Rq_13.out.below hb)
  have Z14 := hide (Nat.le_trans Z13.out hb.size)
  have B14 := hide (below_then B13.out Z13.out hb)
  clear hb
  go_wp2_with fail
  refine (RPick_calls b m cap2 ys hh _ Rq_14.out (vp_of_check HK2.out) HMB.out).mono ?_
  rintro e w15 ⟨he, hb⟩
  rw [HTO.out] at he
  subst he
  have S15 := hide (S14.out.below hb)
  have Rp_15 := hide (Rp_14.out.below hb)
  have Rq_15 := hide (Rq_14.out.below hb)
  have Z15 := hide (Nat.le_trans Z14.out hb.size)
  have B15 := hide (below_then B14.out Z14.out hb)
  clear hb
  go_wp2_with fail
  refine (Find_calls b m cap2 ys id _ Rq_15.out).mono ?_
  rintro e w16 ⟨he, hb⟩
  rw [HFD.out] at he
  subst he
  have S16 := hide (S15.out.below hb)
  have Rp_16 := hide (Rp_15.out.below hb)
  have Rq_16 := hide (Rq_15.out.below hb)
  have Z16 := hide (Nat.le_trans Z15.out hb.size)
  have B16 := hide (below_then B15.out Z15.out hb)
  clear hb
  go_wp2_with fail
  refine (RPick_calls a n cap xs hh _ Rp_16.out (vp_of_check HK.out) HNB.out).mono ?_
  rintro e w17 ⟨he, hb⟩
  rw [HTA.out] at he
  subst he
  have S17 := hide (S16.out.below hb)
  have Rp_17 := hide (Rp_16.out.below hb)
  have Rq_17 := hide (Rq_16.out.below hb)
  have Z17 := hide (Nat.le_trans Z16.out hb.size)
  have B17 := hide (below_then B16.out Z16.out hb)
  clear hb
  go_wp2
  go_ret
  exact ⟨rfl, HB2.out.trans (B17.out.mono (by rw [← HH0.out]; exact HB2.out.size))⟩

set_option maxRecDepth 100000 in
set_option maxHeartbeats 8000000 in
theorem SlotsAnew_gf (a b : Option Addr) (n cap m cap2 : Nat) (id hh : Int) (xs ys : List Bk) (w : World) (hr : Rd 2 bkc w a n xs) (hw : Wf xs) (hr2 : Rd 2 bkc w b m ys) (hw2 : Wf ys) (hn : ¬ (8 : Int) < (n : Int)) (hm : ¬ (8 : Int) < (m : Int)) (hk2 : check ys = 0) (hk : check xs = 0) :
    Calls Try.prog 7 #[.slice a n cap, .slice b m cap2, .int .i64 id, .int .u64 hh, .bool false] w fun e w' => e = .returned (.bool true) ∧ Below w.heap.size w w' := by
  have HR := hide hr
  have HW := hide hw
  have HR2 := hide hr2
  have HW2 := hide hw2
  have HK := hide hk
  have HK2 := hide hk2
  have hnb : n < 4294967296 := by omega
  have hmb : m < 4294967296 := by omega
  have HNB := hide (show n ≤ 65536 by omega)
  have HMB := hide (show m ≤ 65536 by omega)
  clear hr hw hr2 hw2 hk hk2
  go_enter Try.func7, Try.ntmps7
  go_wp2_with fail
  refine (works16_calls _).mono ?_
  rintro e w1 ⟨rfl, hb⟩
  have HB1 := hide hb
  have Rp_1 := hide (HR.out.below hb)
  have Rq_1 := hide (HR2.out.below hb)
  clear hb
  go_wp2_with fail
  refine (Check_calls b m cap2 ys _ Rq_1.out HW2.out hmb).mono ?_
  rintro e w2 ⟨he, hb⟩
  rw [HK2.out] at he
  subst he
  have HB2 := hide (below_then HB1.out HB1.out.size hb)
  have Rp_2 := hide (Rp_1.out.below hb)
  have Rq_2 := hide (Rq_1.out.below hb)
  have hltp := hide (fun (q : Addr) (hq : a = some q) (h0 : 0 < n) => (Rp_2.out.2.2.2 q hq h0).2.1)
  have hltq := hide (fun (q : Addr) (hq : b = some q) (h0 : 0 < m) => (Rq_2.out.2.2.2 q hq h0).2.1)
  clear hb
  go_wp2_with fail
  refine (New_calls 2 w2).mono ?_
  rintro e w3 ⟨rfl, hs, hb⟩
  have S3 := hide (show SlAt w3 (w2.heap.size + 1) w2.heap.size [.spoilt, .spoilt] from hs)
  have Rp_3 := hide (Rp_2.out.below hb)
  have Rq_3 := hide (Rq_2.out.below hb)
  have Z3 := hide hb.size
  have B3 := hide hb
  clear hs hb
  generalize hh0 : w2.heap.size = h at S3 Z3 B3 hltp hltq ⊢
  have HBHp := hide (fun (q : Addr) (hq : a = some q) (h0 : 0 < n) => show q.block ≠ h from by have := hltp.out q hq h0; omega)
  have HBHq := hide (fun (q : Addr) (hq : b = some q) (h0 : 0 < m) => show q.block ≠ h from by have := hltq.out q hq h0; omega)
  have HH0 := hide hh0
  clear hh0 hltp hltq
  go_wp2_with fail
  refine wp_loop_rounds 3 ?_
  rw [rounds_succ]
  go_wp2_with fail
  refine (Begin_calls _ _ _ 0 _ S3.out).mono ?_
  rintro e w4 ⟨he, hs, hg⟩
  rw [show isS [.spoilt, .spoilt] 0 = true from rfl] at he
  subst he
  have S4 := hide (show SlAt w4 (h + 1) h [.building, .spoilt] from hs)
  have Rp_4 := hide (Rp_3.out.grown hg HBHp.out)
  have Rq_4 := hide (Rq_3.out.grown hg HBHq.out)
  have Z4 := hide (Nat.le_trans Z3.out hg.size)
  have B4 := hide (below_grown B3.out Z3.out hg (Nat.le_refl _))
  clear hs hg
  go_wp2_with fail
  have f1 : fillS [.building, .spoilt] 0 xs = true := by unfold fillS; rw [HK.out]; rfl
  have f2 : fillT [.building, .spoilt] 0 xs = [.ready xs, .spoilt] := by unfold fillT; rw [f1]; rfl
  refine (Fill_calls _ _ _ 0 a n cap xs _ S4.out Rp_4.out HW.out hnb).mono ?_
  rintro e w5 ⟨he, hs, hg⟩
  rw [f1] at he
  rw [f2] at hs
  subst he
  have S5 := hide hs
  have Rp_5 := hide (Rp_4.out.grown hg HBHp.out)
  have Rq_5 := hide (Rq_4.out.grown hg HBHq.out)
  have Z5 := hide (Nat.le_trans Z4.out hg.size)
  have B5 := hide (below_grown B4.out Z4.out hg (Nat.le_refl _))
  clear f1 f2 hs hg
  go_wp2_with fail
  rw [rounds_succ]
  go_wp2_with fail
  refine (Begin_calls _ _ _ 1 _ S5.out).mono ?_
  rintro e w6 ⟨he, hs, hg⟩
  rw [show isS [.ready xs, .spoilt] 1 = true from rfl] at he
  subst he
  have S6 := hide (show SlAt w6 (h + 1) h [.ready xs, .building] from hs)
  have Rp_6 := hide (Rp_5.out.grown hg HBHp.out)
  have Rq_6 := hide (Rq_5.out.grown hg HBHq.out)
  have Z6 := hide (Nat.le_trans Z5.out hg.size)
  have B6 := hide (below_grown B5.out Z5.out hg (Nat.le_refl _))
  clear hs hg
  go_wp2_with fail
  have f1 : fillS [.ready xs, .building] 1 xs = true := by unfold fillS; rw [HK.out]; rfl
  have f2 : fillT [.ready xs, .building] 1 xs = [.ready xs, .ready xs] := by unfold fillT; rw [f1]; rfl
  refine (Fill_calls _ _ _ 1 a n cap xs _ S6.out Rp_6.out HW.out hnb).mono ?_
  rintro e w7 ⟨he, hs, hg⟩
  rw [f1] at he
  rw [f2] at hs
  subst he
  have S7 := hide hs
  have Rp_7 := hide (Rp_6.out.grown hg HBHp.out)
  have Rq_7 := hide (Rq_6.out.grown hg HBHq.out)
  have Z7 := hide (Nat.le_trans Z6.out hg.size)
  have B7 := hide (below_grown B6.out Z6.out hg (Nat.le_refl _))
  clear f1 f2 hs hg
  go_wp2_with fail
  rw [rounds_succ]
  go_wp2_with fail
  refine (Begin_calls _ _ _ 1 _ S7.out).mono ?_
  rintro e w8 ⟨he, hs, hg⟩
  rw [show isS [.ready xs, .ready xs] 1 = true from rfl] at he
  subst he
  have S8 := hide (show SlAt w8 (h + 1) h [.ready xs, .building] from hs)
  have Rp_8 := hide (Rp_7.out.grown hg HBHp.out)
  have Rq_8 := hide (Rq_7.out.grown hg HBHq.out)
  have Z8 := hide (Nat.le_trans Z7.out hg.size)
  have B8 := hide (below_grown B7.out Z7.out hg (Nat.le_refl _))
  clear hs hg
  go_wp2_with fail
  have f1 : fillS [.ready xs, .building] 1 ys = true := by unfold fillS; rw [HK2.out]; rfl
  have f2 : fillT [.ready xs, .building] 1 ys = [.ready xs, .ready ys] := by unfold fillT; rw [f1]; rfl
  refine (Fill_calls _ _ _ 1 b m cap2 ys _ S8.out Rq_8.out HW2.out hmb).mono ?_
  rintro e w9 ⟨he, hs, hg⟩
  rw [f1] at he
  rw [f2] at hs
  subst he
  have S9 := hide hs
  have Rp_9 := hide (Rp_8.out.grown hg HBHp.out)
  have Rq_9 := hide (Rq_8.out.grown hg HBHq.out)
  have Z9 := hide (Nat.le_trans Z8.out hg.size)
  have B9 := hide (below_grown B8.out Z8.out hg (Nat.le_refl _))
  clear f1 f2 hs hg
  obtain ⟨tb, hto⟩ : ∃ tb, succP (ofP ys) hh = tb := ⟨_, rfl⟩
  have HTO := hide hto
  clear hto
  obtain ⟨fd, hfd⟩ : ∃ fd, find ys id = fd := ⟨_, rfl⟩
  have HFD := hide hfd
  clear hfd
  go_wp2_with fail
  refine (Pick_calls _ _ _ 1 hh _ S9.out).mono ?_
  rintro e w10 ⟨he, hb⟩
  rw [show pickS [.ready xs, .ready ys] 1 hh = (succP (ofP ys) hh, true) from rfl, HTO.out] at he
  subst he
  have S10 := hide (S9.out.below hb)
  have Rp_10 := hide (Rp_9.out.below hb)
  have Rq_10 := hide (Rq_9.out.below hb)
  have Z10 := hide (Nat.le_trans Z9.out hb.size)
  have B10 := hide (below_then B9.out Z9.out hb)
  clear hb
  go_wp2_with fail
  refine (Has_calls _ _ _ 1 id _ S10.out).mono ?_
  rintro e w11 ⟨he, hb⟩
  rw [show hasS [.ready xs, .ready ys] 1 id = (decide (0 ≤ find ys id), true) from rfl, HFD.out] at he
  subst he
  have S11 := hide (S10.out.below hb)
  have Rp_11 := hide (Rp_10.out.below hb)
  have Rq_11 := hide (Rq_10.out.below hb)
  have Z11 := hide (Nat.le_trans Z10.out hb.size)
  have B11 := hide (below_then B10.out Z10.out hb)
  clear hb
  obtain ⟨ta, hta⟩ : ∃ ta, succP (ofP xs) hh = ta := ⟨_, rfl⟩
  have HTA := hide hta
  clear hta
  go_wp2_with fail
  refine (Pick_calls _ _ _ 0 hh _ S11.out).mono ?_
  rintro e w12 ⟨he, hb⟩
  rw [show pickS [.ready xs, .ready ys] 0 hh = (succP (ofP xs) hh, true) from rfl, HTA.out] at he
  subst he
  have S12 := hide (S11.out.below hb)
  have Rp_12 := hide (Rp_11.out.below hb)
  have Rq_12 := hide (Rq_11.out.below hb)
  have Z12 := hide (Nat.le_trans Z11.out hb.size)
  have B12 := hide (below_then B11.out Z11.out hb)
  clear hb
  go_wp2_with fail
  refine (Check_calls a n cap xs _ Rp_12.out HW.out hnb).mono ?_
  rintro e w13 ⟨he, hb⟩
  rw [HK.out] at he
  subst he
  have S13 := hide (S12.out.below hb)
  have Rp_13 := hide (Rp_12.out.below hb)
  have Rq_13 := hide (Rq_12.out.below hb)
  have Z13 := hide (Nat.le_trans Z12.out hb.size)
  have B13 := hide (below_then B12.out Z12.out hb)
  clear hb
  go_wp2_with fail
  refine (RPick_calls b m cap2 ys hh _ Rq_13.out (vp_of_check HK2.out) HMB.out).mono ?_
  rintro e w14 ⟨he, hb⟩
  rw [HTO.out] at he
  subst he
  have S14 := hide (S13.out.below hb)
  have Rp_14 := hide (Rp_13.out.below hb)
  have Rq_14 := hide (Rq_13.out.below hb)
  have Z14 := hide (Nat.le_trans Z13.out hb.size)
  have B14 := hide (below_then B13.out Z13.out hb)
  clear hb
  go_wp2_with fail
  refine (Find_calls b m cap2 ys id _ Rq_14.out).mono ?_
  rintro e w15 ⟨he, hb⟩
  rw [HFD.out] at he
  subst he
  have S15 := hide (S14.out.below hb)
  have Rp_15 := hide (Rp_14.out.below hb)
  have Rq_15 := hide (Rq_14.out.below hb)
  have Z15 := hide (Nat.le_trans Z14.out hb.size)
  have B15 := hide (below_then B14.out Z14.out hb)
  clear hb
  go_wp2_with fail
  refine (RPick_calls a n cap xs hh _ Rp_15.out (vp_of_check HK.out) HNB.out).mono ?_
  rintro e w16 ⟨he, hb⟩
  rw [HTA.out] at he
  subst he
  have S16 := hide (S15.out.below hb)
  have Rp_16 := hide (Rp_15.out.below hb)
  have Rq_16 := hide (Rq_15.out.below hb)
  have Z16 := hide (Nat.le_trans Z15.out hb.size)
  have B16 := hide (below_then B15.out Z15.out hb)
  clear hb
  go_wp2
  go_ret
  exact ⟨rfl, HB2.out.trans (B16.out.mono (by rw [← HH0.out]; exact HB2.out.size))⟩

set_option maxRecDepth 100000 in
set_option maxHeartbeats 8000000 in
theorem SlotsAnew_nt (a b : Option Addr) (n cap m cap2 : Nat) (id hh : Int) (xs ys : List Bk) (w : World) (hr : Rd 2 bkc w a n xs) (hw : Wf xs) (hr2 : Rd 2 bkc w b m ys) (hw2 : Wf ys) (hn : ¬ (8 : Int) < (n : Int)) (hm : ¬ (8 : Int) < (m : Int)) (hk2 : check ys = 0) (hk : check xs = 10) :
    Calls Try.prog 7 #[.slice a n cap, .slice b m cap2, .int .i64 id, .int .u64 hh, .bool true] w fun e w' => e = .returned (.bool true) ∧ Below w.heap.size w w' := by
  have HR := hide hr
  have HW := hide hw
  have HR2 := hide hr2
  have HW2 := hide hw2
  have HK := hide hk
  have HK2 := hide hk2
  have hnb : n < 4294967296 := by omega
  have hmb : m < 4294967296 := by omega
  have HNB := hide (show n ≤ 65536 by omega)
  have HMB := hide (show m ≤ 65536 by omega)
  clear hr hw hr2 hw2 hk hk2
  go_enter Try.func7, Try.ntmps7
  go_wp2_with fail
  refine (works16_calls _).mono ?_
  rintro e w1 ⟨rfl, hb⟩
  have HB1 := hide hb
  have Rp_1 := hide (HR.out.below hb)
  have Rq_1 := hide (HR2.out.below hb)
  clear hb
  go_wp2_with fail
  refine (Check_calls b m cap2 ys _ Rq_1.out HW2.out hmb).mono ?_
  rintro e w2 ⟨he, hb⟩
  rw [HK2.out] at he
  subst he
  have HB2 := hide (below_then HB1.out HB1.out.size hb)
  have Rp_2 := hide (Rp_1.out.below hb)
  have Rq_2 := hide (Rq_1.out.below hb)
  have hltp := hide (fun (q : Addr) (hq : a = some q) (h0 : 0 < n) => (Rp_2.out.2.2.2 q hq h0).2.1)
  have hltq := hide (fun (q : Addr) (hq : b = some q) (h0 : 0 < m) => (Rq_2.out.2.2.2 q hq h0).2.1)
  clear hb
  go_wp2_with fail
  refine (New_calls 2 w2).mono ?_
  rintro e w3 ⟨rfl, hs, hb⟩
  have S3 := hide (show SlAt w3 (w2.heap.size + 1) w2.heap.size [.spoilt, .spoilt] from hs)
  have Rp_3 := hide (Rp_2.out.below hb)
  have Rq_3 := hide (Rq_2.out.below hb)
  have Z3 := hide hb.size
  have B3 := hide hb
  clear hs hb
  generalize hh0 : w2.heap.size = h at S3 Z3 B3 hltp hltq ⊢
  have HBHp := hide (fun (q : Addr) (hq : a = some q) (h0 : 0 < n) => show q.block ≠ h from by have := hltp.out q hq h0; omega)
  have HBHq := hide (fun (q : Addr) (hq : b = some q) (h0 : 0 < m) => show q.block ≠ h from by have := hltq.out q hq h0; omega)
  have HH0 := hide hh0
  clear hh0 hltp hltq
  go_wp2_with fail
  refine wp_loop_rounds 3 ?_
  rw [rounds_succ]
  go_wp2_with fail
  refine (Begin_calls _ _ _ 0 _ S3.out).mono ?_
  rintro e w4 ⟨he, hs, hg⟩
  rw [show isS [.spoilt, .spoilt] 0 = true from rfl] at he
  subst he
  have S4 := hide (show SlAt w4 (h + 1) h [.building, .spoilt] from hs)
  have Rp_4 := hide (Rp_3.out.grown hg HBHp.out)
  have Rq_4 := hide (Rq_3.out.grown hg HBHq.out)
  have Z4 := hide (Nat.le_trans Z3.out hg.size)
  have B4 := hide (below_grown B3.out Z3.out hg (Nat.le_refl _))
  clear hs hg
  go_wp2_with fail
  have f1 : fillS [.building, .spoilt] 0 xs = false := by unfold fillS; rw [HK.out]; rfl
  have f2 : fillT [.building, .spoilt] 0 xs = [.building, .spoilt] := by unfold fillT; rw [f1]; rfl
  refine (Fill_calls _ _ _ 0 a n cap xs _ S4.out Rp_4.out HW.out hnb).mono ?_
  rintro e w5 ⟨he, hs, hg⟩
  rw [f1] at he
  rw [f2] at hs
  subst he
  have S5 := hide hs
  have Rp_5 := hide (Rp_4.out.grown hg HBHp.out)
  have Rq_5 := hide (Rq_4.out.grown hg HBHq.out)
  have Z5 := hide (Nat.le_trans Z4.out hg.size)
  have B5 := hide (below_grown B4.out Z4.out hg (Nat.le_refl _))
  clear f1 f2 hs hg
  go_wp2_with fail
  rw [rounds_succ]
  go_wp2_with fail
  refine (Begin_calls _ _ _ 1 _ S5.out).mono ?_
  rintro e w6 ⟨he, hs, hg⟩
  rw [show isS [.building, .spoilt] 1 = true from rfl] at he
  subst he
  have S6 := hide (show SlAt w6 (h + 1) h [.building, .building] from hs)
  have Rp_6 := hide (Rp_5.out.grown hg HBHp.out)
  have Rq_6 := hide (Rq_5.out.grown hg HBHq.out)
  have Z6 := hide (Nat.le_trans Z5.out hg.size)
  have B6 := hide (below_grown B5.out Z5.out hg (Nat.le_refl _))
  clear hs hg
  go_wp2_with fail
  have f1 : fillS [.building, .building] 1 xs = false := by unfold fillS; rw [HK.out]; rfl
  have f2 : fillT [.building, .building] 1 xs = [.building, .building] := by unfold fillT; rw [f1]; rfl
  refine (Fill_calls _ _ _ 1 a n cap xs _ S6.out Rp_6.out HW.out hnb).mono ?_
  rintro e w7 ⟨he, hs, hg⟩
  rw [f1] at he
  rw [f2] at hs
  subst he
  have S7 := hide hs
  have Rp_7 := hide (Rp_6.out.grown hg HBHp.out)
  have Rq_7 := hide (Rq_6.out.grown hg HBHq.out)
  have Z7 := hide (Nat.le_trans Z6.out hg.size)
  have B7 := hide (below_grown B6.out Z6.out hg (Nat.le_refl _))
  clear f1 f2 hs hg
  go_wp2_with fail
  rw [rounds_succ]
  go_wp2_with fail
  refine (Spoil_calls _ _ _ 1 _ S7.out).mono ?_
  rintro e w8 ⟨he, hs, hg⟩
  rw [show isS [.building, .building] 1 = true from rfl] at he
  subst he
  have S8 := hide (show SlAt w8 (h + 1) h [.building, .spoilt] from hs)
  have Rp_8 := hide (Rp_7.out.grown hg HBHp.out)
  have Rq_8 := hide (Rq_7.out.grown hg HBHq.out)
  have Z8 := hide (Nat.le_trans Z7.out hg.size)
  have B8 := hide (below_grown B7.out Z7.out hg (Nat.le_refl _))
  clear hs hg
  go_wp2_with fail
  refine (Begin_calls _ _ _ 1 _ S8.out).mono ?_
  rintro e w9 ⟨he, hs, hg⟩
  rw [show isS [.building, .spoilt] 1 = true from rfl] at he
  subst he
  have S9 := hide (show SlAt w9 (h + 1) h [.building, .building] from hs)
  have Rp_9 := hide (Rp_8.out.grown hg HBHp.out)
  have Rq_9 := hide (Rq_8.out.grown hg HBHq.out)
  have Z9 := hide (Nat.le_trans Z8.out hg.size)
  have B9 := hide (below_grown B8.out Z8.out hg (Nat.le_refl _))
  clear hs hg
  go_wp2_with fail
  have f1 : fillS [.building, .building] 1 ys = true := by unfold fillS; rw [HK2.out]; rfl
  have f2 : fillT [.building, .building] 1 ys = [.building, .ready ys] := by unfold fillT; rw [f1]; rfl
  refine (Fill_calls _ _ _ 1 b m cap2 ys _ S9.out Rq_9.out HW2.out hmb).mono ?_
  rintro e w10 ⟨he, hs, hg⟩
  rw [f1] at he
  rw [f2] at hs
  subst he
  have S10 := hide hs
  have Rp_10 := hide (Rp_9.out.grown hg HBHp.out)
  have Rq_10 := hide (Rq_9.out.grown hg HBHq.out)
  have Z10 := hide (Nat.le_trans Z9.out hg.size)
  have B10 := hide (below_grown B9.out Z9.out hg (Nat.le_refl _))
  clear f1 f2 hs hg
  obtain ⟨tb, hto⟩ : ∃ tb, succP (ofP ys) hh = tb := ⟨_, rfl⟩
  have HTO := hide hto
  clear hto
  obtain ⟨fd, hfd⟩ : ∃ fd, find ys id = fd := ⟨_, rfl⟩
  have HFD := hide hfd
  clear hfd
  go_wp2_with fail
  refine (Pick_calls _ _ _ 1 hh _ S10.out).mono ?_
  rintro e w11 ⟨he, hb⟩
  rw [show pickS [.building, .ready ys] 1 hh = (succP (ofP ys) hh, true) from rfl, HTO.out] at he
  subst he
  have S11 := hide (S10.out.below hb)
  have Rp_11 := hide (Rp_10.out.below hb)
  have Rq_11 := hide (Rq_10.out.below hb)
  have Z11 := hide (Nat.le_trans Z10.out hb.size)
  have B11 := hide (below_then B10.out Z10.out hb)
  clear hb
  go_wp2_with fail
  refine (Has_calls _ _ _ 1 id _ S11.out).mono ?_
  rintro e w12 ⟨he, hb⟩
  rw [show hasS [.building, .ready ys] 1 id = (decide (0 ≤ find ys id), true) from rfl, HFD.out] at he
  subst he
  have S12 := hide (S11.out.below hb)
  have Rp_12 := hide (Rp_11.out.below hb)
  have Rq_12 := hide (Rq_11.out.below hb)
  have Z12 := hide (Nat.le_trans Z11.out hb.size)
  have B12 := hide (below_then B11.out Z11.out hb)
  clear hb
  go_wp2_with fail
  refine (Pick_calls _ _ _ 0 hh _ S12.out).mono ?_
  rintro e w13 ⟨he, hb⟩
  rw [show pickS [.building, .ready ys] 0 hh = (0, false) from rfl] at he
  subst he
  have S13 := hide (S12.out.below hb)
  have Rp_13 := hide (Rp_12.out.below hb)
  have Rq_13 := hide (Rq_12.out.below hb)
  have Z13 := hide (Nat.le_trans Z12.out hb.size)
  have B13 := hide (below_then B12.out Z12.out hb)
  clear hb
  go_wp2_with fail
  refine (Check_calls a n cap xs _ Rp_13.out HW.out hnb).mono ?_
  rintro e w14 ⟨he, hb⟩
  rw [HK.out] at he
  subst he
  have S14 := hide (S13.out.below hb)
  have Rp_14 := hide (Rp_13.out.below hb)
  have Rq_14 := hide (Rq_13.out.below hb)
  have Z14 := hide (Nat.le_trans Z13.out hb.size)
  have B14 := hide (below_then B13.out Z13.out hb)
  clear hb
  go_wp2_with fail
  refine (RPick_calls b m cap2 ys hh _ Rq_14.out (vp_of_check HK2.out) HMB.out).mono ?_
  rintro e w15 ⟨he, hb⟩
  rw [HTO.out] at he
  subst he
  have S15 := hide (S14.out.below hb)
  have Rp_15 := hide (Rp_14.out.below hb)
  have Rq_15 := hide (Rq_14.out.below hb)
  have Z15 := hide (Nat.le_trans Z14.out hb.size)
  have B15 := hide (below_then B14.out Z14.out hb)
  clear hb
  go_wp2_with fail
  refine (Find_calls b m cap2 ys id _ Rq_15.out).mono ?_
  rintro e w16 ⟨he, hb⟩
  rw [HFD.out] at he
  subst he
  have S16 := hide (S15.out.below hb)
  have Rp_16 := hide (Rp_15.out.below hb)
  have Rq_16 := hide (Rq_15.out.below hb)
  have Z16 := hide (Nat.le_trans Z15.out hb.size)
  have B16 := hide (below_then B15.out Z15.out hb)
  clear hb
  go_wp2
  go_ret
  exact ⟨rfl, HB2.out.trans (B16.out.mono (by rw [← HH0.out]; exact HB2.out.size))⟩

set_option maxRecDepth 100000 in
set_option maxHeartbeats 8000000 in
theorem SlotsAnew_nf (a b : Option Addr) (n cap m cap2 : Nat) (id hh : Int) (xs ys : List Bk) (w : World) (hr : Rd 2 bkc w a n xs) (hw : Wf xs) (hr2 : Rd 2 bkc w b m ys) (hw2 : Wf ys) (hn : ¬ (8 : Int) < (n : Int)) (hm : ¬ (8 : Int) < (m : Int)) (hk2 : check ys = 0) (hk : check xs = 10) :
    Calls Try.prog 7 #[.slice a n cap, .slice b m cap2, .int .i64 id, .int .u64 hh, .bool false] w fun e w' => e = .returned (.bool true) ∧ Below w.heap.size w w' := by
  have HR := hide hr
  have HW := hide hw
  have HR2 := hide hr2
  have HW2 := hide hw2
  have HK := hide hk
  have HK2 := hide hk2
  have hnb : n < 4294967296 := by omega
  have hmb : m < 4294967296 := by omega
  have HNB := hide (show n ≤ 65536 by omega)
  have HMB := hide (show m ≤ 65536 by omega)
  clear hr hw hr2 hw2 hk hk2
  go_enter Try.func7, Try.ntmps7
  go_wp2_with fail
  refine (works16_calls _).mono ?_
  rintro e w1 ⟨rfl, hb⟩
  have HB1 := hide hb
  have Rp_1 := hide (HR.out.below hb)
  have Rq_1 := hide (HR2.out.below hb)
  clear hb
  go_wp2_with fail
  refine (Check_calls b m cap2 ys _ Rq_1.out HW2.out hmb).mono ?_
  rintro e w2 ⟨he, hb⟩
  rw [HK2.out] at he
  subst he
  have HB2 := hide (below_then HB1.out HB1.out.size hb)
  have Rp_2 := hide (Rp_1.out.below hb)
  have Rq_2 := hide (Rq_1.out.below hb)
  have hltp := hide (fun (q : Addr) (hq : a = some q) (h0 : 0 < n) => (Rp_2.out.2.2.2 q hq h0).2.1)
  have hltq := hide (fun (q : Addr) (hq : b = some q) (h0 : 0 < m) => (Rq_2.out.2.2.2 q hq h0).2.1)
  clear hb
  go_wp2_with fail
  refine (New_calls 2 w2).mono ?_
  rintro e w3 ⟨rfl, hs, hb⟩
  have S3 := hide (show SlAt w3 (w2.heap.size + 1) w2.heap.size [.spoilt, .spoilt] from hs)
  have Rp_3 := hide (Rp_2.out.below hb)
  have Rq_3 := hide (Rq_2.out.below hb)
  have Z3 := hide hb.size
  have B3 := hide hb
  clear hs hb
  generalize hh0 : w2.heap.size = h at S3 Z3 B3 hltp hltq ⊢
  have HBHp := hide (fun (q : Addr) (hq : a = some q) (h0 : 0 < n) => show q.block ≠ h from by have := hltp.out q hq h0; omega)
  have HBHq := hide (fun (q : Addr) (hq : b = some q) (h0 : 0 < m) => show q.block ≠ h from by have := hltq.out q hq h0; omega)
  have HH0 := hide hh0
  clear hh0 hltp hltq
  go_wp2_with fail
  refine wp_loop_rounds 3 ?_
  rw [rounds_succ]
  go_wp2_with fail
  refine (Begin_calls _ _ _ 0 _ S3.out).mono ?_
  rintro e w4 ⟨he, hs, hg⟩
  rw [show isS [.spoilt, .spoilt] 0 = true from rfl] at he
  subst he
  have S4 := hide (show SlAt w4 (h + 1) h [.building, .spoilt] from hs)
  have Rp_4 := hide (Rp_3.out.grown hg HBHp.out)
  have Rq_4 := hide (Rq_3.out.grown hg HBHq.out)
  have Z4 := hide (Nat.le_trans Z3.out hg.size)
  have B4 := hide (below_grown B3.out Z3.out hg (Nat.le_refl _))
  clear hs hg
  go_wp2_with fail
  have f1 : fillS [.building, .spoilt] 0 xs = false := by unfold fillS; rw [HK.out]; rfl
  have f2 : fillT [.building, .spoilt] 0 xs = [.building, .spoilt] := by unfold fillT; rw [f1]; rfl
  refine (Fill_calls _ _ _ 0 a n cap xs _ S4.out Rp_4.out HW.out hnb).mono ?_
  rintro e w5 ⟨he, hs, hg⟩
  rw [f1] at he
  rw [f2] at hs
  subst he
  have S5 := hide hs
  have Rp_5 := hide (Rp_4.out.grown hg HBHp.out)
  have Rq_5 := hide (Rq_4.out.grown hg HBHq.out)
  have Z5 := hide (Nat.le_trans Z4.out hg.size)
  have B5 := hide (below_grown B4.out Z4.out hg (Nat.le_refl _))
  clear f1 f2 hs hg
  go_wp2_with fail
  rw [rounds_succ]
  go_wp2_with fail
  refine (Begin_calls _ _ _ 1 _ S5.out).mono ?_
  rintro e w6 ⟨he, hs, hg⟩
  rw [show isS [.building, .spoilt] 1 = true from rfl] at he
  subst he
  have S6 := hide (show SlAt w6 (h + 1) h [.building, .building] from hs)
  have Rp_6 := hide (Rp_5.out.grown hg HBHp.out)
  have Rq_6 := hide (Rq_5.out.grown hg HBHq.out)
  have Z6 := hide (Nat.le_trans Z5.out hg.size)
  have B6 := hide (below_grown B5.out Z5.out hg (Nat.le_refl _))
  clear hs hg
  go_wp2_with fail
  have f1 : fillS [.building, .building] 1 xs = false := by unfold fillS; rw [HK.out]; rfl
  have f2 : fillT [.building, .building] 1 xs = [.building, .building] := by unfold fillT; rw [f1]; rfl
  refine (Fill_calls _ _ _ 1 a n cap xs _ S6.out Rp_6.out HW.out hnb).mono ?_
  rintro e w7 ⟨he, hs, hg⟩
  rw [f1] at he
  rw [f2] at hs
  subst he
  have S7 := hide hs
  have Rp_7 := hide (Rp_6.out.grown hg HBHp.out)
  have Rq_7 := hide (Rq_6.out.grown hg HBHq.out)
  have Z7 := hide (Nat.le_trans Z6.out hg.size)
  have B7 := hide (below_grown B6.out Z6.out hg (Nat.le_refl _))
  clear f1 f2 hs hg
  go_wp2_with fail
  rw [rounds_succ]
  go_wp2_with fail
  refine (Begin_calls _ _ _ 1 _ S7.out).mono ?_
  rintro e w8 ⟨he, hs, hg⟩
  rw [show isS [.building, .building] 1 = true from rfl] at he
  subst he
  have S8 := hide (show SlAt w8 (h + 1) h [.building, .building] from hs)
  have Rp_8 := hide (Rp_7.out.grown hg HBHp.out)
  have Rq_8 := hide (Rq_7.out.grown hg HBHq.out)
  have Z8 := hide (Nat.le_trans Z7.out hg.size)
  have B8 := hide (below_grown B7.out Z7.out hg (Nat.le_refl _))
  clear hs hg
  go_wp2_with fail
  have f1 : fillS [.building, .building] 1 ys = true := by unfold fillS; rw [HK2.out]; rfl
  have f2 : fillT [.building, .building] 1 ys = [.building, .ready ys] := by unfold fillT; rw [f1]; rfl
  refine (Fill_calls _ _ _ 1 b m cap2 ys _ S8.out Rq_8.out HW2.out hmb).mono ?_
  rintro e w9 ⟨he, hs, hg⟩
  rw [f1] at he
  rw [f2] at hs
  subst he
  have S9 := hide hs
  have Rp_9 := hide (Rp_8.out.grown hg HBHp.out)
  have Rq_9 := hide (Rq_8.out.grown hg HBHq.out)
  have Z9 := hide (Nat.le_trans Z8.out hg.size)
  have B9 := hide (below_grown B8.out Z8.out hg (Nat.le_refl _))
  clear f1 f2 hs hg
  obtain ⟨tb, hto⟩ : ∃ tb, succP (ofP ys) hh = tb := ⟨_, rfl⟩
  have HTO := hide hto
  clear hto
  obtain ⟨fd, hfd⟩ : ∃ fd, find ys id = fd := ⟨_, rfl⟩
  have HFD := hide hfd
  clear hfd
  go_wp2_with fail
  refine (Pick_calls _ _ _ 1 hh _ S9.out).mono ?_
  rintro e w10 ⟨he, hb⟩
  rw [show pickS [.building, .ready ys] 1 hh = (succP (ofP ys) hh, true) from rfl, HTO.out] at he
  subst he
  have S10 := hide (S9.out.below hb)
  have Rp_10 := hide (Rp_9.out.below hb)
  have Rq_10 := hide (Rq_9.out.below hb)
  have Z10 := hide (Nat.le_trans Z9.out hb.size)
  have B10 := hide (below_then B9.out Z9.out hb)
  clear hb
  go_wp2_with fail
  refine (Has_calls _ _ _ 1 id _ S10.out).mono ?_
  rintro e w11 ⟨he, hb⟩
  rw [show hasS [.building, .ready ys] 1 id = (decide (0 ≤ find ys id), true) from rfl, HFD.out] at he
  subst he
  have S11 := hide (S10.out.below hb)
  have Rp_11 := hide (Rp_10.out.below hb)
  have Rq_11 := hide (Rq_10.out.below hb)
  have Z11 := hide (Nat.le_trans Z10.out hb.size)
  have B11 := hide (below_then B10.out Z10.out hb)
  clear hb
  go_wp2_with fail
  refine (Pick_calls _ _ _ 0 hh _ S11.out).mono ?_
  rintro e w12 ⟨he, hb⟩
  rw [show pickS [.building, .ready ys] 0 hh = (0, false) from rfl] at he
  subst he
  have S12 := hide (S11.out.below hb)
  have Rp_12 := hide (Rp_11.out.below hb)
  have Rq_12 := hide (Rq_11.out.below hb)
  have Z12 := hide (Nat.le_trans Z11.out hb.size)
  have B12 := hide (below_then B11.out Z11.out hb)
  clear hb
  go_wp2_with fail
  refine (Check_calls a n cap xs _ Rp_12.out HW.out hnb).mono ?_
  rintro e w13 ⟨he, hb⟩
  rw [HK.out] at he
  subst he
  have S13 := hide (S12.out.below hb)
  have Rp_13 := hide (Rp_12.out.below hb)
  have Rq_13 := hide (Rq_12.out.below hb)
  have Z13 := hide (Nat.le_trans Z12.out hb.size)
  have B13 := hide (below_then B12.out Z12.out hb)
  clear hb
  go_wp2_with fail
  refine (RPick_calls b m cap2 ys hh _ Rq_13.out (vp_of_check HK2.out) HMB.out).mono ?_
  rintro e w14 ⟨he, hb⟩
  rw [HTO.out] at he
  subst he
  have S14 := hide (S13.out.below hb)
  have Rp_14 := hide (Rp_13.out.below hb)
  have Rq_14 := hide (Rq_13.out.below hb)
  have Z14 := hide (Nat.le_trans Z13.out hb.size)
  have B14 := hide (below_then B13.out Z13.out hb)
  clear hb
  go_wp2_with fail
  refine (Find_calls b m cap2 ys id _ Rq_14.out).mono ?_
  rintro e w15 ⟨he, hb⟩
  rw [HFD.out] at he
  subst he
  have S15 := hide (S14.out.below hb)
  have Rp_15 := hide (Rp_14.out.below hb)
  have Rq_15 := hide (Rq_14.out.below hb)
  have Z15 := hide (Nat.le_trans Z14.out hb.size)
  have B15 := hide (below_then B14.out Z14.out hb)
  clear hb
  go_wp2
  go_ret
  exact ⟨rfl, HB2.out.trans (B15.out.mono (by rw [← HH0.out]; exact HB2.out.size))⟩

theorem SlotsAnew_all (a b : Option Addr) (n cap m cap2 : Nat) (id hh : Int) (sp : Bool) (xs ys : List Bk) (w : World) (hr : Rd 2 bkc w a n xs) (hw : Wf xs) (hr2 : Rd 2 bkc w b m ys) (hw2 : Wf ys) :
    Calls Try.prog 7 #[.slice a n cap, .slice b m cap2, .int .i64 id, .int .u64 hh, .bool sp] w fun e w' => e = .returned (.bool true) ∧ Below w.heap.size w w' := by
  by_cases h1 : (8 : Int) < (n : Int)
  · exact SlotsAnew_far a b n cap m cap2 id hh sp w hr.le hr2.le (.inl h1)
  · by_cases h2 : (8 : Int) < (m : Int)
    · exact SlotsAnew_far a b n cap m cap2 id hh sp w hr.le hr2.le (.inr ⟨h1, h2⟩)
    · rcases check_01 ys with hk2 | hk2
      · rcases check_01 xs with hk | hk
        · cases sp
          · exact SlotsAnew_gf a b n cap m cap2 id hh xs ys w hr hw hr2 hw2 h1 h2 hk2 hk
          · exact SlotsAnew_gt a b n cap m cap2 id hh xs ys w hr hw hr2 hw2 h1 h2 hk2 hk
        · cases sp
          · exact SlotsAnew_nf a b n cap m cap2 id hh xs ys w hr hw hr2 hw2 h1 h2 hk2 hk
          · exact SlotsAnew_nt a b n cap m cap2 id hh xs ys w hr hw hr2 hw2 h1 h2 hk2 hk
      · exact SlotsAnew_bad a b n cap m cap2 id hh sp ys w hr2 hw2 h1 h2 hk2
end Go.Proofs.Ytiaifphidcfddaa
