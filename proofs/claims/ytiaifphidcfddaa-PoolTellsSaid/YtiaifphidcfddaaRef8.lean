/-
  The reference's Same and Ints of layer 8.
-/
import Derived.Test.YtiaifphidcfddaaPool3
set_option linter.unusedVariables false
set_option linter.unusedSimpArgs false
namespace Go.Proofs.Ytiaifphidcfddaa
open Go.RowKit Go.Shelf

set_option maxHeartbeats 1000000 in
theorem RSame_calls (a b : Option Addr) (n m cap cap2 : Nat) (xs ys : List Bk) (w : World) (hr : Rd 2 bkc w a n xs) (hr2 : Rd 2 bkc w b m ys) :
    Calls Try.prog 33 #[.slice a n cap, .slice b m cap2] w fun e w' => e = .returned (.bool (decide (xs = ys))) ∧ Below w.heap.size w w' := by
  have hn := hr.le
  have hn2 := hr2.le
  by_cases hlen : n = m
  · subst hlen
    have h0 : ((n : Int) != (n : Int)) = false := by simp
    have HL := hide hr.len
    have HL2 := hide hr2.len
    have HR := hide hr
    have HR2 := hide hr2
    clear hr hr2
    have hneq := neq_bk
    have hgd := guard_bk
    go_enter Try.func33, Try.ntmps33
    go_wp2
    go_loopg [5] n (fun gg s5 wr => ∃ kk : Nat, kk ≤ n ∧ n - kk ≤ gg ∧ s5 = .int .i64 kk ∧ Hid (Below w.heap.size w wr) ∧ Hid (∀ j, j < kk → xs[j]? = ys[j]?))
    case atStart => exact ⟨0, Nat.zero_le _, by omega, rfl, Below.refl _ w, fun j hj => absurd hj (Nat.not_lt_zero _)⟩
    case round =>
      obtain ⟨kk, hkk, hg, rfl, BW, A⟩ := hrel
      by_cases hlt : kk < n
      · have hltz : (kk : Int) < (n : Int) := by omega
        obtain ⟨b1, off1, x1, x2, ha, hx, hb1, hc1, hc2⟩ := (HR.out.below BW.out).at_bk kk hlt
        obtain ⟨b2, off2, y1, y2, ha2, hy, hb2, hd1, hd2⟩ := (HR2.out.below BW.out).at_bk kk hlt
        have HX := hide hx
        have HY := hide hy
        clear hx hy
        subst ha ha2
        by_cases e : (x1, x2) = (y1, y2)
        · have hdec : eqb x1 x2 y1 y2 = true := decide_eq_true e
          have HE := hide e
          clear e
          go_wp2
          go_quiet (fail)
          go_wp2
          go_roundg (n - (kk + 1))
          case measure => omega
          case rel =>
            refine ⟨kk + 1, by omega, by omega, by go_num, (show Hid _ from ?_), (show Hid _ from fun j hj => ?_)⟩
            · exact ⟨BW.out.os, BW.out.tape, BW.out.output, BW.out.size, BW.out.block⟩
            · by_cases e : j = kk
              · subst e
                rw [HX.out, HY.out, HE.out]
              · exact A.out j (by omega)
        · have hdec : eqb x1 x2 y1 y2 = false := decide_eq_false e
          have HE := hide e
          clear e
          go_wp2
          go_quiet (fail)
          go_wp2
          go_ret
          refine ⟨?_, ⟨BW.out.os, BW.out.tape, BW.out.output, BW.out.size, BW.out.block⟩⟩
          rw [decide_eq_false (fun h => ?_)]
          · rfl
          · subst h
            have := HX.out.symm.trans HY.out
            exact HE.out (by simpa using this)
      · have hltz : ¬ (kk : Int) < (n : Int) := by omega
        have : kk = n := by omega
        subst this
        go_wp2
        go_ret
        refine ⟨?_, BW.out⟩
        rw [decide_eq_true (List.ext_getElem? (fun j => ?_))]
        · rfl
        · by_cases hj : j < kk
          · exact A.out j hj
          · rw [List.getElem?_eq_none (by have := HL.out; omega), List.getElem?_eq_none (by have := HL2.out; omega)]
  · have h0 : ((n : Int) != (m : Int)) = true := by rw [bne_iff_ne]; omega
    have HF := hide (show decide (xs = ys) = false from decide_eq_false (fun h => hlen (by rw [hr.len, hr2.len, h])))
    clear hlen hr hr2
    go_enter Try.func33, Try.ntmps33
    go_wp2
    go_ret
    exact ⟨by rw [HF.out]; rfl, Below.refl _ _⟩

set_option maxHeartbeats 1000000 in
theorem RInts_calls (a b : Option Addr) (n m cap cap2 : Nat) (xs ys : List Int) (w : World) (hr : Rd 1 i64c w a n xs) (hr2 : Rd 1 i64c w b m ys) :
    Calls Try.prog 40 #[.slice a n cap, .slice b m cap2] w fun e w' => e = .returned (.bool (decide (xs = ys))) ∧ Below w.heap.size w w' := by
  have hn := hr.le
  have hn2 := hr2.le
  by_cases hlen : n = m
  · subst hlen
    have h0 : ((n : Int) != (n : Int)) = false := by simp
    have HL := hide hr.len
    have HL2 := hide hr2.len
    have HR := hide hr
    have HR2 := hide hr2
    clear hr hr2
    go_enter Try.func40, Try.ntmps40
    go_wp2
    go_loopg [5] n (fun gg s5 wr => ∃ kk : Nat, kk ≤ n ∧ n - kk ≤ gg ∧ s5 = .int .i64 kk ∧ Hid (Below w.heap.size w wr) ∧ Hid (∀ j, j < kk → xs[j]? = ys[j]?))
    case atStart => exact ⟨0, Nat.zero_le _, by omega, rfl, Below.refl _ w, fun j hj => absurd hj (Nat.not_lt_zero _)⟩
    case round =>
      obtain ⟨kk, hkk, hg, rfl, BW, A⟩ := hrel
      by_cases hlt : kk < n
      · have hltz : (kk : Int) < (n : Int) := by omega
        obtain ⟨b1, off1, x1, ha, hx, hb1, hc1⟩ := (HR.out.below BW.out).at_i64 kk hlt
        obtain ⟨b2, off2, y1, ha2, hy, hb2, hd1⟩ := (HR2.out.below BW.out).at_i64 kk hlt
        have HX := hide hx
        have HY := hide hy
        clear hx hy
        subst ha ha2
        by_cases e : x1 = y1
        · have hdec : (x1 != y1) = false := bne_eq_false_iff_eq.2 e
          have HE := hide e
          clear e
          go_wp2
          go_quiet (fail)
          go_wp2
          go_roundg (n - (kk + 1))
          case measure => omega
          case rel =>
            refine ⟨kk + 1, by omega, by omega, by go_num, (show Hid _ from ?_), (show Hid _ from fun j hj => ?_)⟩
            · exact ⟨BW.out.os, BW.out.tape, BW.out.output, BW.out.size, BW.out.block⟩
            · by_cases e : j = kk
              · subst e
                rw [HX.out, HY.out, HE.out]
              · exact A.out j (by omega)
        · have hdec : (x1 != y1) = true := bne_iff_ne.2 e
          have HE := hide e
          clear e
          go_wp2
          go_quiet (fail)
          go_wp2
          go_ret
          refine ⟨?_, ⟨BW.out.os, BW.out.tape, BW.out.output, BW.out.size, BW.out.block⟩⟩
          rw [decide_eq_false (fun h => ?_)]
          · rfl
          · subst h
            have := HX.out.symm.trans HY.out
            exact HE.out (by simpa using this)
      · have hltz : ¬ (kk : Int) < (n : Int) := by omega
        have : kk = n := by omega
        subst this
        go_wp2
        go_ret
        refine ⟨?_, BW.out⟩
        rw [decide_eq_true (List.ext_getElem? (fun j => ?_))]
        · rfl
        · by_cases hj : j < kk
          · exact A.out j hj
          · rw [List.getElem?_eq_none (by have := HL.out; omega), List.getElem?_eq_none (by have := HL2.out; omega)]
  · have h0 : ((n : Int) != (m : Int)) = true := by rw [bne_iff_ne]; omega
    have HF := hide (show decide (xs = ys) = false from decide_eq_false (fun h => hlen (by rw [hr.len, hr2.len, h])))
    clear hlen hr hr2
    go_enter Try.func40, Try.ntmps40
    go_wp2
    go_ret
    exact ⟨by rw [HF.out]; rfl, Below.refl _ _⟩
end Go.Proofs.Ytiaifphidcfddaa
