/-
  Contracts: slices.Clone, slices.Equal at Backend; pool.Same, pool.With.
-/
import Derived.Test.YtiaifphidcfddaaPool2
import Derived.Lib.SliceRun
set_option linter.unusedVariables false
set_option linter.unusedSimpArgs false
namespace Go.Proofs.Ytiaifphidcfddaa
open Go.RowKit Go.Shelf Go.Maps

theorem eql_bk_nil (w : World) (a : Option Addr) (n c n' c' : Nat) : (binOp .eql 31 (.slice a n c) (.slice none n' c')).run Try.prog w = .ok (.bool a.isNone) w :=
  Lib.run_eql_slice_nil w _ _ a n c n' c' Try.underlying31

/-- A fresh row without an element. -/
theorem Ow_empty {α : Type} {k : Nat} {enc : α → List Value} {e : TypeId} (w : World) (base B : Nat) (hB : w.heap.size = B) (hb : base ≤ B) : Ow k enc e base (w.alloc (.cells #[] e)) (.slice (some ⟨B, 0, none⟩) 0 0) ([] : List α) := by
  subst hB
  exact World.ownsRow_lit w #[] 0 hb (Nat.zero_le _) (by simp)

set_option maxHeartbeats 400000 in
theorem Clone_calls (a : Option Addr) (n cap : Nat) (xs : List Bk) (w : World) (hr : Rd 2 bkc w a n xs) (hbig : n < 4294967296) :
    Calls Try.prog 60 #[.slice a n cap] w fun e w' => ∃ v, e = .returned v ∧ Ow 2 bkc 56 w.heap.size w' v xs ∧ Below w.heap.size w w' ∧ (v = .slice none 0 0 ↔ a = none) := by
  have hq := eql_bk_nil
  cases a with
  | none =>
    have h0 := hr.2.2.1 rfl
    subst h0
    clear hr
    go_enter Try.func60, Try.ntmps60
    go_wp2
    go_ret
    exact ⟨_, rfl, Ow.nil, Below.refl _ _, by simp⟩
  | some p =>
    have HR := hide (hr.below ((Below.refl _ w).alloc (Nat.le_refl _) (.cells #[] 56)))
    have HO := hide (Ow_empty (k := 2) (enc := bkc) (e := 56) w w.heap.size w.heap.size rfl (Nat.le_refl _))
    have hl := hr.len
    clear hr
    subst hl
    go_enter Try.func60, Try.ntmps60
    go_wp2_with (at_builtin; refine wpList_apps El_bk bkc bkc_len bkc_one rfl _ _ rfl w.heap.size _ [] xs rfl HO.out (some p) cap rfl HR.out (fun h => by cases h) (by simp) (by simp; omega) (by omega) ?_; intro v' w' h1 h2 h3 h4; have H1 := hide h1; have H3 := hide h3; have H4 := hide h4; clear h1 h2 h3 h4)
    go_ret
    exact ⟨_, rfl, by simpa using H1.out, ((Below.refl _ w).alloc (Nat.le_refl _) _).trans H3.out, ⟨fun h => (by have h5 := (H4.out.1 h).1; cases h5), fun h => (by cases h)⟩⟩

/-! ### slices.Equal, pool.Same -/
def eqb (x1 x2 y1 y2 : Int) : Bool := decide ((x1, x2) = (y1, y2))
theorem neq_bk (x1 x2 y1 y2 : Int) (w : World) : (binOp .neq 56 (.agg #[.int .i64 x1, .int .i64 x2]) (.agg #[.int .i64 y1, .int .i64 y2])).run Try.prog w = .ok (.bool (!eqb x1 x2 y1 y2)) w := by
  unfold eqb
  have u3 := Try.underlying3
  have a3 := Try.isAgg3
  have z3 := Try.sizeOf3
  have hS : Try.prog.underlying 56 = some (.struct (Try.prog.fieldsOf 56)) := by kernel_rfl
  have hp : Try.prog.stoodInHeld 56 = false := by kernel_rfl
  rw [run_neq_struct, show (10000 : Nat) = 9999 + 1 from rfl, run_equalIn_agg w 9999 56 _ _ hS hp]
  simp only [Program.fieldsOf, Try.underlying56]
  go_simp
  by_cases h1 : x1 = y1 <;> by_cases h2 : x2 = y2 <;> simp [h1, h2]

theorem guard_bk (op : BinOp) (x y : Operand) (xs ys : Array Value) (w : World) : (eqGuard op 56 x y (.agg xs) (.agg ys)).run Try.prog w = .ok () w := run_eqGuard_agg w op _ x y xs ys (by kernel_rfl)

set_option maxHeartbeats 1000000 in
theorem Equal_calls (a b : Option Addr) (n m cap cap2 : Nat) (xs ys : List Bk) (w : World) (hr : Rd 2 bkc w a n xs) (hr2 : Rd 2 bkc w b m ys) :
    Calls Try.prog 71 #[.slice a n cap, .slice b m cap2] w fun e w' => e = .returned (.bool (decide (xs = ys))) ∧ Below w.heap.size w w' := by
  have hn := hr.le
  have hn2 := hr2.le
  by_cases hlen : n = m
  · subst hlen
    have h0 : ((n : Int) != (n : Int)) = false := by simp
    have HL := hide hr.len
    have HL2 := hide hr2.len
    have HR := hide hr
    have HR2 := hide hr2
    clear hr hr2
    have hneq := neq_bk
    have hgd := guard_bk
    go_enter Try.func71, Try.ntmps71
    go_wp2
    go_loopg [5, 13] n (fun gg _ s13 wr => ∃ kk : Nat, kk ≤ n ∧ n - kk ≤ gg ∧ s13 = .int .i64 kk ∧ Hid (Below w.heap.size w wr) ∧ Hid (∀ j, j < kk → xs[j]? = ys[j]?))
    case atStart => exact ⟨0, Nat.zero_le _, by omega, rfl, Below.refl _ w, fun j hj => absurd hj (Nat.not_lt_zero _)⟩
    case round =>
      obtain ⟨kk, hkk, hg, rfl, BW, A⟩ := hrel
      by_cases hlt : kk < n
      · have hltz : (kk : Int) < (n : Int) := by omega
        obtain ⟨b1, off1, x1, x2, ha, hx, hb1, hc1, hc2⟩ := (HR.out.below BW.out).at_bk kk hlt
        obtain ⟨b2, off2, y1, y2, ha2, hy, hb2, hd1, hd2⟩ := (HR2.out.below BW.out).at_bk kk hlt
        have HX := hide hx
        have HY := hide hy
        clear hx hy
        subst ha ha2
        by_cases e : (x1, x2) = (y1, y2)
        · have hdec : eqb x1 x2 y1 y2 = true := decide_eq_true e
          have HE := hide e
          clear e
          go_wp2
          go_quiet (fail)
          go_wp2
          go_roundg (n - (kk + 1))
          case measure => omega
          case rel =>
            refine ⟨kk + 1, by omega, by omega, by go_num, (show Hid _ from ?_), (show Hid _ from fun j hj => ?_)⟩
            · exact ⟨BW.out.os, BW.out.tape, BW.out.output, BW.out.size, BW.out.block⟩
            · by_cases e : j = kk
              · subst e
                rw [HX.out, HY.out, HE.out]
              · exact A.out j (by omega)
        · have hdec : eqb x1 x2 y1 y2 = false := decide_eq_false e
          have HE := hide e
          clear e
          go_wp2
          go_quiet (fail)
          go_wp2
          go_ret
          refine ⟨?_, ⟨BW.out.os, BW.out.tape, BW.out.output, BW.out.size, BW.out.block⟩⟩
          rw [decide_eq_false (fun h => ?_)]
          · rfl
          · subst h
            have := HX.out.symm.trans HY.out
            exact HE.out (by simpa using this)
      · have hltz : ¬ (kk : Int) < (n : Int) := by omega
        have : kk = n := by omega
        subst this
        go_wp2
        go_ret
        refine ⟨?_, BW.out⟩
        rw [decide_eq_true (List.ext_getElem? (fun j => ?_))]
        · rfl
        · by_cases hj : j < kk
          · exact A.out j hj
          · rw [List.getElem?_eq_none (by have := HL.out; omega), List.getElem?_eq_none (by have := HL2.out; omega)]
  · have h0 : ((n : Int) != (m : Int)) = true := by rw [bne_iff_ne]; omega
    have HF := hide (show decide (xs = ys) = false from decide_eq_false (fun h => hlen (by rw [hr.len, hr2.len, h])))
    clear hlen hr hr2
    go_enter Try.func71, Try.ntmps71
    go_wp2
    go_ret
    exact ⟨by rw [HF.out]; rfl, Below.refl _ _⟩

theorem Same_calls (a b : Option Addr) (n m cap cap2 : Nat) (xs ys : List Bk) (w : World) (hr : Rd 2 bkc w a n xs) (hr2 : Rd 2 bkc w b m ys) :
    Calls Try.prog 45 #[.slice a n cap, .slice b m cap2] w fun e w' => e = .returned (.bool (decide (xs = ys))) ∧ Below w.heap.size w w' := by
  have hcon := Equal_calls a b n m cap cap2 xs ys w hr hr2
  clear hr hr2
  generalize decide (xs = ys) = r at hcon ⊢
  go_enter Try.func45, Try.ntmps45
  go_wp2_with (go_at_call 71; refine hcon.mono ?_; rintro e w' ⟨rfl, hb'⟩)
  go_ret
  exact ⟨rfl, hb'⟩
end Go.Proofs.Ytiaifphidcfddaa
